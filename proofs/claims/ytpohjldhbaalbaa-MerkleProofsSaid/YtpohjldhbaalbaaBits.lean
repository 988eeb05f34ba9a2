/- Words of 32 bits in the walk's spelling; the contracts of the turns. -/
import Derived.Test.YtpohjldhbaalbaaSha
import Derived.Test.YtpohjldhbaalbaaProg
import Derived.WalkSpells
import Derived.WalkLawsBesides
namespace Go.Proofs.Ytpohjldhbaalbaa
set_option linter.unusedVariables false
set_option linter.unusedSimpArgs false
set_option linter.unusedSectionVars false
open Go.RowKit

theorem w_add32 (a b : UInt32) : IntKind.u32.wrap (n32 a + n32 b) = n32 (add32 a b) := by
  rw [IntKind.wrap_u32]; unfold n32 add32; rw [UInt32.toNat_add]; simp
theorem w_and32 (a b : UInt32) : bits .and .u32 (n32 a) (n32 b) = n32 (and32 a b) := by
  unfold n32 and32; rw [u32_and_nat _ _ a.toNat_lt b.toNat_lt, UInt32.toNat_and]
theorem w_or32 (a b : UInt32) : bits .or .u32 (n32 a) (n32 b) = n32 (or32 a b) := by
  unfold n32 or32; rw [u32_or_nat _ _ a.toNat_lt b.toNat_lt, UInt32.toNat_or]
theorem w_xor32 (a b : UInt32) : bits .xor .u32 (n32 a) (n32 b) = n32 (xor32 a b) := by
  unfold n32 xor32; rw [u32_xor_nat _ _ a.toNat_lt b.toNat_lt, UInt32.toNat_xor]
theorem w_andNot32 (a b : UInt32) : bits .andNot .u32 (n32 a) (n32 b) = n32 (and32 a (not32 b)) := by
  unfold n32 and32 not32; rw [u32_andNot_nat _ _ a.toNat_lt b.toNat_lt, UInt32.toNat_and, UInt32.toNat_not]
  simp only [UInt32.size]
theorem n32_div_pow (x n : UInt32) (k : Nat) (hn : n.toNat = k) (hk : k < 32) : n32 x / ((2 ^ k : Nat) : Int) = n32 (shr32 x n) := by
  unfold n32 shr32
  rw [UInt32.toNat_shiftRight, hn, Nat.mod_eq_of_lt hk, Nat.shiftRight_eq_div_pow, Int.natCast_ediv]
theorem n32_mul_pow (x n : UInt32) (k : Nat) (hn : n.toNat = k) (hk : k < 32) : n32 x * ((2 ^ k : Nat) : Int) % 4294967296 = n32 (x <<< n) := by
  unfold n32
  rw [UInt32.toNat_shiftLeft, hn, Nat.mod_eq_of_lt hk, Nat.shiftLeft_eq]
  simp
theorem w_rot (x n m : UInt32) (k j : Nat) (hn : n.toNat = k) (hk : k < 32) (hm : m.toNat = j) (hj : j < 32) (hnm : 32 - n = m) :
    bits .or .u32 (n32 x / ((2 ^ k : Nat) : Int)) (n32 x * ((2 ^ j : Nat) : Int) % 4294967296) = n32 (rotr x n) := by
  rw [n32_div_pow x n k hn hk, n32_mul_pow x m j hm hj, w_or32]
  unfold rotr or32 shr32; rw [hnm]
theorem bits_or_comm32 (a b : UInt32) : bits .or .u32 (n32 a) (n32 b) = bits .or .u32 (n32 b) (n32 a) := by
  rw [w_or32, w_or32]; unfold or32; rw [UInt32.or_comm]
theorem w_rot' (x n m : UInt32) (k j : Nat) (hn : n.toNat = k) (hk : k < 32) (hm : m.toNat = j) (hj : j < 32) (hnm : 32 - n = m) :
    bits .or .u32 (n32 x * ((2 ^ j : Nat) : Int) % 4294967296) (n32 x / ((2 ^ k : Nat) : Int)) = n32 (rotr x n) := by
  rw [← w_rot x n m k j hn hk hm hj hnm, n32_div_pow x n k hn hk, n32_mul_pow x m j hm hj, bits_or_comm32]

theorem n8_lt (x : UInt8) : x.toNat < 256 := x.toNat_lt
theorem w_be32 (a b c d : UInt8) :
    bits .or .u32 (bits .or .u32 (bits .or .u32 (n8 a * 16777216) (n8 b * 65536)) (n8 c * 256)) (n8 d) = n32 (be32 a b c d) := by
  have ha := n8_lt a
  have hb := n8_lt b
  have hc := n8_lt c
  have hd := n8_lt d
  have e1 : n8 a * (16777216 : Int) = n32 (a.toUInt32 <<< 24) := by
    unfold n8 n32; simp [UInt32.toNat_shiftLeft, Nat.shiftLeft_eq]; omega
  have e2 : n8 b * (65536 : Int) = n32 (b.toUInt32 <<< 16) := by
    unfold n8 n32; simp [UInt32.toNat_shiftLeft, Nat.shiftLeft_eq]; omega
  have e3 : n8 c * (256 : Int) = n32 (c.toUInt32 <<< 8) := by
    unfold n8 n32; simp [UInt32.toNat_shiftLeft, Nat.shiftLeft_eq]; omega
  have e4 : n8 d = n32 d.toUInt32 := by unfold n8 n32; simp
  rw [e1, e2, e3, e4, w_or32, w_or32, w_or32]; rfl

theorem w_shr3 (x : UInt32) : n32 x / 8 = n32 (shr32 x 3) := n32_div_pow x 3 3 rfl (by decide)
theorem w_shr10 (x : UInt32) : n32 x / 1024 = n32 (shr32 x 10) := n32_div_pow x 10 10 rfl (by decide)

theorem rw_2 (x : UInt32) : bits .or .u32 (n32 x / 4) (n32 x * 1073741824 % 4294967296) = n32 (rotr x 2) :=
  w_rot x 2 30 2 30 rfl (by decide) rfl (by decide) rfl
theorem rw'_2 (x : UInt32) : bits .or .u32 (n32 x * 1073741824 % 4294967296) (n32 x / 4) = n32 (rotr x 2) :=
  w_rot' x 2 30 2 30 rfl (by decide) rfl (by decide) rfl
theorem turn_2 (x : UInt32) (w : World) :
    Calls Try.prog 77 #[.int .u32 (n32 x), .int .u64 2] w fun e w' => e = .returned (.int .u32 (n32 (rotr x 2))) ∧ w = w' := by
  have h1 := n32_lo x
  have h2 := n32_hi x
  go_enter Try.func77, Try.ntmps77
  go_wp2
  go_ret
  refine ⟨?_, rfl⟩
  rw [rw_2]
  rfl
theorem rotl_2 (x : UInt32) (w : World) :
    Calls Try.prog 78 #[.int .u32 (n32 x), .int .i64 (-2)] w fun e w' => e = .returned (.int .u32 (n32 (rotr x 2))) ∧ w = w' := by
  have h1 := n32_lo x
  have h2 := n32_hi x
  have e1 : IntKind.u64.wrap (-2) = 18446744073709551614 := by decide
  have e2 : bits .and .u64 18446744073709551614 31 = 30 := by decide +kernel
  go_enter Try.func78, Try.ntmps78
  go_wp2
  go_ret
  refine ⟨?_, rfl⟩
  rw [rw'_2]
  rfl
theorem rot_2 (x : UInt32) (w : World) :
    Calls Try.prog 75 #[.int .u32 (n32 x), .int .i64 2] w fun e w' => e = .returned (.int .u32 (n32 (rotr x 2))) ∧ w = w' := by
  have e1 : bits .and .i64 2 31 = 2 := by decide +kernel
  have e2 : wrap64 (-2) = -2 := by decide +kernel
  go_enter Try.func75, Try.ntmps75
  go_wp2_with fail
  refine (rotl_2 _ _).mono ?_
  rintro e w' ⟨rfl, rfl⟩
  go_wp2
  go_ret
  exact ⟨rfl, rfl⟩
theorem rw_6 (x : UInt32) : bits .or .u32 (n32 x / 64) (n32 x * 67108864 % 4294967296) = n32 (rotr x 6) :=
  w_rot x 6 26 6 26 rfl (by decide) rfl (by decide) rfl
theorem rw'_6 (x : UInt32) : bits .or .u32 (n32 x * 67108864 % 4294967296) (n32 x / 64) = n32 (rotr x 6) :=
  w_rot' x 6 26 6 26 rfl (by decide) rfl (by decide) rfl
theorem turn_6 (x : UInt32) (w : World) :
    Calls Try.prog 77 #[.int .u32 (n32 x), .int .u64 6] w fun e w' => e = .returned (.int .u32 (n32 (rotr x 6))) ∧ w = w' := by
  have h1 := n32_lo x
  have h2 := n32_hi x
  go_enter Try.func77, Try.ntmps77
  go_wp2
  go_ret
  refine ⟨?_, rfl⟩
  rw [rw_6]
  rfl
theorem rotl_6 (x : UInt32) (w : World) :
    Calls Try.prog 78 #[.int .u32 (n32 x), .int .i64 (-6)] w fun e w' => e = .returned (.int .u32 (n32 (rotr x 6))) ∧ w = w' := by
  have h1 := n32_lo x
  have h2 := n32_hi x
  have e1 : IntKind.u64.wrap (-6) = 18446744073709551610 := by decide
  have e2 : bits .and .u64 18446744073709551610 31 = 26 := by decide +kernel
  go_enter Try.func78, Try.ntmps78
  go_wp2
  go_ret
  refine ⟨?_, rfl⟩
  rw [rw'_6]
  rfl
theorem rot_6 (x : UInt32) (w : World) :
    Calls Try.prog 75 #[.int .u32 (n32 x), .int .i64 6] w fun e w' => e = .returned (.int .u32 (n32 (rotr x 6))) ∧ w = w' := by
  have e1 : bits .and .i64 6 31 = 6 := by decide +kernel
  have e2 : wrap64 (-6) = -6 := by decide +kernel
  go_enter Try.func75, Try.ntmps75
  go_wp2_with fail
  refine (rotl_6 _ _).mono ?_
  rintro e w' ⟨rfl, rfl⟩
  go_wp2
  go_ret
  exact ⟨rfl, rfl⟩
theorem rw_7 (x : UInt32) : bits .or .u32 (n32 x / 128) (n32 x * 33554432 % 4294967296) = n32 (rotr x 7) :=
  w_rot x 7 25 7 25 rfl (by decide) rfl (by decide) rfl
theorem rw'_7 (x : UInt32) : bits .or .u32 (n32 x * 33554432 % 4294967296) (n32 x / 128) = n32 (rotr x 7) :=
  w_rot' x 7 25 7 25 rfl (by decide) rfl (by decide) rfl
theorem turn_7 (x : UInt32) (w : World) :
    Calls Try.prog 77 #[.int .u32 (n32 x), .int .u64 7] w fun e w' => e = .returned (.int .u32 (n32 (rotr x 7))) ∧ w = w' := by
  have h1 := n32_lo x
  have h2 := n32_hi x
  go_enter Try.func77, Try.ntmps77
  go_wp2
  go_ret
  refine ⟨?_, rfl⟩
  rw [rw_7]
  rfl
theorem rotl_7 (x : UInt32) (w : World) :
    Calls Try.prog 78 #[.int .u32 (n32 x), .int .i64 (-7)] w fun e w' => e = .returned (.int .u32 (n32 (rotr x 7))) ∧ w = w' := by
  have h1 := n32_lo x
  have h2 := n32_hi x
  have e1 : IntKind.u64.wrap (-7) = 18446744073709551609 := by decide
  have e2 : bits .and .u64 18446744073709551609 31 = 25 := by decide +kernel
  go_enter Try.func78, Try.ntmps78
  go_wp2
  go_ret
  refine ⟨?_, rfl⟩
  rw [rw'_7]
  rfl
theorem rot_7 (x : UInt32) (w : World) :
    Calls Try.prog 75 #[.int .u32 (n32 x), .int .i64 7] w fun e w' => e = .returned (.int .u32 (n32 (rotr x 7))) ∧ w = w' := by
  have e1 : bits .and .i64 7 31 = 7 := by decide +kernel
  have e2 : wrap64 (-7) = -7 := by decide +kernel
  go_enter Try.func75, Try.ntmps75
  go_wp2_with fail
  refine (rotl_7 _ _).mono ?_
  rintro e w' ⟨rfl, rfl⟩
  go_wp2
  go_ret
  exact ⟨rfl, rfl⟩
theorem rw_11 (x : UInt32) : bits .or .u32 (n32 x / 2048) (n32 x * 2097152 % 4294967296) = n32 (rotr x 11) :=
  w_rot x 11 21 11 21 rfl (by decide) rfl (by decide) rfl
theorem rw'_11 (x : UInt32) : bits .or .u32 (n32 x * 2097152 % 4294967296) (n32 x / 2048) = n32 (rotr x 11) :=
  w_rot' x 11 21 11 21 rfl (by decide) rfl (by decide) rfl
theorem turn_11 (x : UInt32) (w : World) :
    Calls Try.prog 77 #[.int .u32 (n32 x), .int .u64 11] w fun e w' => e = .returned (.int .u32 (n32 (rotr x 11))) ∧ w = w' := by
  have h1 := n32_lo x
  have h2 := n32_hi x
  go_enter Try.func77, Try.ntmps77
  go_wp2
  go_ret
  refine ⟨?_, rfl⟩
  rw [rw_11]
  rfl
theorem rotl_11 (x : UInt32) (w : World) :
    Calls Try.prog 78 #[.int .u32 (n32 x), .int .i64 (-11)] w fun e w' => e = .returned (.int .u32 (n32 (rotr x 11))) ∧ w = w' := by
  have h1 := n32_lo x
  have h2 := n32_hi x
  have e1 : IntKind.u64.wrap (-11) = 18446744073709551605 := by decide
  have e2 : bits .and .u64 18446744073709551605 31 = 21 := by decide +kernel
  go_enter Try.func78, Try.ntmps78
  go_wp2
  go_ret
  refine ⟨?_, rfl⟩
  rw [rw'_11]
  rfl
theorem rot_11 (x : UInt32) (w : World) :
    Calls Try.prog 75 #[.int .u32 (n32 x), .int .i64 11] w fun e w' => e = .returned (.int .u32 (n32 (rotr x 11))) ∧ w = w' := by
  have e1 : bits .and .i64 11 31 = 11 := by decide +kernel
  have e2 : wrap64 (-11) = -11 := by decide +kernel
  go_enter Try.func75, Try.ntmps75
  go_wp2_with fail
  refine (rotl_11 _ _).mono ?_
  rintro e w' ⟨rfl, rfl⟩
  go_wp2
  go_ret
  exact ⟨rfl, rfl⟩
theorem rw_13 (x : UInt32) : bits .or .u32 (n32 x / 8192) (n32 x * 524288 % 4294967296) = n32 (rotr x 13) :=
  w_rot x 13 19 13 19 rfl (by decide) rfl (by decide) rfl
theorem rw'_13 (x : UInt32) : bits .or .u32 (n32 x * 524288 % 4294967296) (n32 x / 8192) = n32 (rotr x 13) :=
  w_rot' x 13 19 13 19 rfl (by decide) rfl (by decide) rfl
theorem turn_13 (x : UInt32) (w : World) :
    Calls Try.prog 77 #[.int .u32 (n32 x), .int .u64 13] w fun e w' => e = .returned (.int .u32 (n32 (rotr x 13))) ∧ w = w' := by
  have h1 := n32_lo x
  have h2 := n32_hi x
  go_enter Try.func77, Try.ntmps77
  go_wp2
  go_ret
  refine ⟨?_, rfl⟩
  rw [rw_13]
  rfl
theorem rotl_13 (x : UInt32) (w : World) :
    Calls Try.prog 78 #[.int .u32 (n32 x), .int .i64 (-13)] w fun e w' => e = .returned (.int .u32 (n32 (rotr x 13))) ∧ w = w' := by
  have h1 := n32_lo x
  have h2 := n32_hi x
  have e1 : IntKind.u64.wrap (-13) = 18446744073709551603 := by decide
  have e2 : bits .and .u64 18446744073709551603 31 = 19 := by decide +kernel
  go_enter Try.func78, Try.ntmps78
  go_wp2
  go_ret
  refine ⟨?_, rfl⟩
  rw [rw'_13]
  rfl
theorem rot_13 (x : UInt32) (w : World) :
    Calls Try.prog 75 #[.int .u32 (n32 x), .int .i64 13] w fun e w' => e = .returned (.int .u32 (n32 (rotr x 13))) ∧ w = w' := by
  have e1 : bits .and .i64 13 31 = 13 := by decide +kernel
  have e2 : wrap64 (-13) = -13 := by decide +kernel
  go_enter Try.func75, Try.ntmps75
  go_wp2_with fail
  refine (rotl_13 _ _).mono ?_
  rintro e w' ⟨rfl, rfl⟩
  go_wp2
  go_ret
  exact ⟨rfl, rfl⟩
theorem rw_17 (x : UInt32) : bits .or .u32 (n32 x / 131072) (n32 x * 32768 % 4294967296) = n32 (rotr x 17) :=
  w_rot x 17 15 17 15 rfl (by decide) rfl (by decide) rfl
theorem rw'_17 (x : UInt32) : bits .or .u32 (n32 x * 32768 % 4294967296) (n32 x / 131072) = n32 (rotr x 17) :=
  w_rot' x 17 15 17 15 rfl (by decide) rfl (by decide) rfl
theorem turn_17 (x : UInt32) (w : World) :
    Calls Try.prog 77 #[.int .u32 (n32 x), .int .u64 17] w fun e w' => e = .returned (.int .u32 (n32 (rotr x 17))) ∧ w = w' := by
  have h1 := n32_lo x
  have h2 := n32_hi x
  go_enter Try.func77, Try.ntmps77
  go_wp2
  go_ret
  refine ⟨?_, rfl⟩
  rw [rw_17]
  rfl
theorem rotl_17 (x : UInt32) (w : World) :
    Calls Try.prog 78 #[.int .u32 (n32 x), .int .i64 (-17)] w fun e w' => e = .returned (.int .u32 (n32 (rotr x 17))) ∧ w = w' := by
  have h1 := n32_lo x
  have h2 := n32_hi x
  have e1 : IntKind.u64.wrap (-17) = 18446744073709551599 := by decide
  have e2 : bits .and .u64 18446744073709551599 31 = 15 := by decide +kernel
  go_enter Try.func78, Try.ntmps78
  go_wp2
  go_ret
  refine ⟨?_, rfl⟩
  rw [rw'_17]
  rfl
theorem rot_17 (x : UInt32) (w : World) :
    Calls Try.prog 75 #[.int .u32 (n32 x), .int .i64 17] w fun e w' => e = .returned (.int .u32 (n32 (rotr x 17))) ∧ w = w' := by
  have e1 : bits .and .i64 17 31 = 17 := by decide +kernel
  have e2 : wrap64 (-17) = -17 := by decide +kernel
  go_enter Try.func75, Try.ntmps75
  go_wp2_with fail
  refine (rotl_17 _ _).mono ?_
  rintro e w' ⟨rfl, rfl⟩
  go_wp2
  go_ret
  exact ⟨rfl, rfl⟩
theorem rw_18 (x : UInt32) : bits .or .u32 (n32 x / 262144) (n32 x * 16384 % 4294967296) = n32 (rotr x 18) :=
  w_rot x 18 14 18 14 rfl (by decide) rfl (by decide) rfl
theorem rw'_18 (x : UInt32) : bits .or .u32 (n32 x * 16384 % 4294967296) (n32 x / 262144) = n32 (rotr x 18) :=
  w_rot' x 18 14 18 14 rfl (by decide) rfl (by decide) rfl
theorem turn_18 (x : UInt32) (w : World) :
    Calls Try.prog 77 #[.int .u32 (n32 x), .int .u64 18] w fun e w' => e = .returned (.int .u32 (n32 (rotr x 18))) ∧ w = w' := by
  have h1 := n32_lo x
  have h2 := n32_hi x
  go_enter Try.func77, Try.ntmps77
  go_wp2
  go_ret
  refine ⟨?_, rfl⟩
  rw [rw_18]
  rfl
theorem rotl_18 (x : UInt32) (w : World) :
    Calls Try.prog 78 #[.int .u32 (n32 x), .int .i64 (-18)] w fun e w' => e = .returned (.int .u32 (n32 (rotr x 18))) ∧ w = w' := by
  have h1 := n32_lo x
  have h2 := n32_hi x
  have e1 : IntKind.u64.wrap (-18) = 18446744073709551598 := by decide
  have e2 : bits .and .u64 18446744073709551598 31 = 14 := by decide +kernel
  go_enter Try.func78, Try.ntmps78
  go_wp2
  go_ret
  refine ⟨?_, rfl⟩
  rw [rw'_18]
  rfl
theorem rot_18 (x : UInt32) (w : World) :
    Calls Try.prog 75 #[.int .u32 (n32 x), .int .i64 18] w fun e w' => e = .returned (.int .u32 (n32 (rotr x 18))) ∧ w = w' := by
  have e1 : bits .and .i64 18 31 = 18 := by decide +kernel
  have e2 : wrap64 (-18) = -18 := by decide +kernel
  go_enter Try.func75, Try.ntmps75
  go_wp2_with fail
  refine (rotl_18 _ _).mono ?_
  rintro e w' ⟨rfl, rfl⟩
  go_wp2
  go_ret
  exact ⟨rfl, rfl⟩
theorem rw_19 (x : UInt32) : bits .or .u32 (n32 x / 524288) (n32 x * 8192 % 4294967296) = n32 (rotr x 19) :=
  w_rot x 19 13 19 13 rfl (by decide) rfl (by decide) rfl
theorem rw'_19 (x : UInt32) : bits .or .u32 (n32 x * 8192 % 4294967296) (n32 x / 524288) = n32 (rotr x 19) :=
  w_rot' x 19 13 19 13 rfl (by decide) rfl (by decide) rfl
theorem turn_19 (x : UInt32) (w : World) :
    Calls Try.prog 77 #[.int .u32 (n32 x), .int .u64 19] w fun e w' => e = .returned (.int .u32 (n32 (rotr x 19))) ∧ w = w' := by
  have h1 := n32_lo x
  have h2 := n32_hi x
  go_enter Try.func77, Try.ntmps77
  go_wp2
  go_ret
  refine ⟨?_, rfl⟩
  rw [rw_19]
  rfl
theorem rotl_19 (x : UInt32) (w : World) :
    Calls Try.prog 78 #[.int .u32 (n32 x), .int .i64 (-19)] w fun e w' => e = .returned (.int .u32 (n32 (rotr x 19))) ∧ w = w' := by
  have h1 := n32_lo x
  have h2 := n32_hi x
  have e1 : IntKind.u64.wrap (-19) = 18446744073709551597 := by decide
  have e2 : bits .and .u64 18446744073709551597 31 = 13 := by decide +kernel
  go_enter Try.func78, Try.ntmps78
  go_wp2
  go_ret
  refine ⟨?_, rfl⟩
  rw [rw'_19]
  rfl
theorem rot_19 (x : UInt32) (w : World) :
    Calls Try.prog 75 #[.int .u32 (n32 x), .int .i64 19] w fun e w' => e = .returned (.int .u32 (n32 (rotr x 19))) ∧ w = w' := by
  have e1 : bits .and .i64 19 31 = 19 := by decide +kernel
  have e2 : wrap64 (-19) = -19 := by decide +kernel
  go_enter Try.func75, Try.ntmps75
  go_wp2_with fail
  refine (rotl_19 _ _).mono ?_
  rintro e w' ⟨rfl, rfl⟩
  go_wp2
  go_ret
  exact ⟨rfl, rfl⟩
theorem rw_22 (x : UInt32) : bits .or .u32 (n32 x / 4194304) (n32 x * 1024 % 4294967296) = n32 (rotr x 22) :=
  w_rot x 22 10 22 10 rfl (by decide) rfl (by decide) rfl
theorem rw'_22 (x : UInt32) : bits .or .u32 (n32 x * 1024 % 4294967296) (n32 x / 4194304) = n32 (rotr x 22) :=
  w_rot' x 22 10 22 10 rfl (by decide) rfl (by decide) rfl
theorem turn_22 (x : UInt32) (w : World) :
    Calls Try.prog 77 #[.int .u32 (n32 x), .int .u64 22] w fun e w' => e = .returned (.int .u32 (n32 (rotr x 22))) ∧ w = w' := by
  have h1 := n32_lo x
  have h2 := n32_hi x
  go_enter Try.func77, Try.ntmps77
  go_wp2
  go_ret
  refine ⟨?_, rfl⟩
  rw [rw_22]
  rfl
theorem rotl_22 (x : UInt32) (w : World) :
    Calls Try.prog 78 #[.int .u32 (n32 x), .int .i64 (-22)] w fun e w' => e = .returned (.int .u32 (n32 (rotr x 22))) ∧ w = w' := by
  have h1 := n32_lo x
  have h2 := n32_hi x
  have e1 : IntKind.u64.wrap (-22) = 18446744073709551594 := by decide
  have e2 : bits .and .u64 18446744073709551594 31 = 10 := by decide +kernel
  go_enter Try.func78, Try.ntmps78
  go_wp2
  go_ret
  refine ⟨?_, rfl⟩
  rw [rw'_22]
  rfl
theorem rot_22 (x : UInt32) (w : World) :
    Calls Try.prog 75 #[.int .u32 (n32 x), .int .i64 22] w fun e w' => e = .returned (.int .u32 (n32 (rotr x 22))) ∧ w = w' := by
  have e1 : bits .and .i64 22 31 = 22 := by decide +kernel
  have e2 : wrap64 (-22) = -22 := by decide +kernel
  go_enter Try.func75, Try.ntmps75
  go_wp2_with fail
  refine (rotl_22 _ _).mono ?_
  rintro e w' ⟨rfl, rfl⟩
  go_wp2
  go_ret
  exact ⟨rfl, rfl⟩
theorem rw_25 (x : UInt32) : bits .or .u32 (n32 x / 33554432) (n32 x * 128 % 4294967296) = n32 (rotr x 25) :=
  w_rot x 25 7 25 7 rfl (by decide) rfl (by decide) rfl
theorem rw'_25 (x : UInt32) : bits .or .u32 (n32 x * 128 % 4294967296) (n32 x / 33554432) = n32 (rotr x 25) :=
  w_rot' x 25 7 25 7 rfl (by decide) rfl (by decide) rfl
theorem turn_25 (x : UInt32) (w : World) :
    Calls Try.prog 77 #[.int .u32 (n32 x), .int .u64 25] w fun e w' => e = .returned (.int .u32 (n32 (rotr x 25))) ∧ w = w' := by
  have h1 := n32_lo x
  have h2 := n32_hi x
  go_enter Try.func77, Try.ntmps77
  go_wp2
  go_ret
  refine ⟨?_, rfl⟩
  rw [rw_25]
  rfl
theorem rotl_25 (x : UInt32) (w : World) :
    Calls Try.prog 78 #[.int .u32 (n32 x), .int .i64 (-25)] w fun e w' => e = .returned (.int .u32 (n32 (rotr x 25))) ∧ w = w' := by
  have h1 := n32_lo x
  have h2 := n32_hi x
  have e1 : IntKind.u64.wrap (-25) = 18446744073709551591 := by decide
  have e2 : bits .and .u64 18446744073709551591 31 = 7 := by decide +kernel
  go_enter Try.func78, Try.ntmps78
  go_wp2
  go_ret
  refine ⟨?_, rfl⟩
  rw [rw'_25]
  rfl
theorem rot_25 (x : UInt32) (w : World) :
    Calls Try.prog 75 #[.int .u32 (n32 x), .int .i64 25] w fun e w' => e = .returned (.int .u32 (n32 (rotr x 25))) ∧ w = w' := by
  have e1 : bits .and .i64 25 31 = 25 := by decide +kernel
  have e2 : wrap64 (-25) = -25 := by decide +kernel
  go_enter Try.func75, Try.ntmps75
  go_wp2_with fail
  refine (rotl_25 _ _).mono ?_
  rintro e w' ⟨rfl, rfl⟩
  go_wp2
  go_ret
  exact ⟨rfl, rfl⟩
theorem still_of {P : Program} {f : FuncId} {args : Array Value} {w : World} {v : Value} (h : Calls P f args w fun e w' => e = .returned v ∧ w = w') :
    Calls P f args w fun e w' => e = .returned v ∧ w' = w := h.mono fun _ _ h => ⟨h.1, h.2.symm⟩
def rotOk (n : Int) : Bool := [2, 6, 7, 11, 13, 17, 18, 19, 22, 25].contains n
theorem rot_c (x : UInt32) (n : Int) (w : World) (h : rotOk n = true) :
    Calls Try.prog 75 #[.int .u32 (n32 x), .int .i64 n] w fun e w' => e = .returned (.int .u32 (n32 (rotr x (UInt32.ofNat n.toNat)))) ∧ w = w' := by
  simp only [rotOk, List.contains_cons, List.contains_nil, Bool.or_false, Bool.or_eq_true, beq_iff_eq] at h
  rcases h with rfl | rfl | rfl | rfl | rfl | rfl | rfl | rfl | rfl | rfl
  · exact rot_2 x w
  · exact rot_6 x w
  · exact rot_7 x w
  · exact rot_11 x w
  · exact rot_13 x w
  · exact rot_17 x w
  · exact rot_18 x w
  · exact rot_19 x w
  · exact rot_22 x w
  · exact rot_25 x w
theorem turn_c (x : UInt32) (n : Int) (w : World) (h : rotOk n = true) :
    Calls Try.prog 77 #[.int .u32 (n32 x), .int .u64 n] w fun e w' => e = .returned (.int .u32 (n32 (rotr x (UInt32.ofNat n.toNat)))) ∧ w = w' := by
  simp only [rotOk, List.contains_cons, List.contains_nil, Bool.or_false, Bool.or_eq_true, beq_iff_eq] at h
  rcases h with rfl | rfl | rfl | rfl | rfl | rfl | rfl | rfl | rfl | rfl
  · exact turn_2 x w
  · exact turn_6 x w
  · exact turn_7 x w
  · exact turn_11 x w
  · exact turn_13 x w
  · exact turn_17 x w
  · exact turn_18 x w
  · exact turn_19 x w
  · exact turn_22 x w
  · exact turn_25 x w
end Go.Proofs.Ytpohjldhbaalbaa
