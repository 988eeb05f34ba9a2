/- The contract of chapter 04's awake. -/
import Derived.Test.YtfaekebglijebaaDigits
import Derived.Test.YtfaekebglijebaaEq
namespace Go.Proofs.Ytfaekebglijebaa
open Go.RowKit
set_option linter.unusedVariables false

theorem eq_dg (W : World) (a b : List UInt8) (ha : a.length = 32) (hb : b.length = 32) :
    (Op.equalIn 10000 24 (.agg (c8 a).toArray) (.agg (c8 b).toArray)).run Try.prog W = .ok (decide (a = b)) W :=
  run_eq8 W (D := 2) (k := 2) (n := 32) Try.underlying24 (by kernel_rfl) (by kernel_rfl)
    (reads8_array (n := 32) (c := 1) Try.underlying24 (by kernel_rfl) (by kernel_rfl) (reads8_u8 0 Try.underlying5)) a b ha hb 9998
theorem eq_a32 (W : World) (a b : List UInt8) (ha : a.length = 32) (hb : b.length = 32) :
    (Op.equalIn 10000 22 (.agg (c8 a).toArray) (.agg (c8 b).toArray)).run Try.prog W = .ok (decide (a = b)) W :=
  run_eq8 W (D := 2) (k := 2) (n := 32) Try.underlying22 (by kernel_rfl) (by kernel_rfl)
    (reads8_array (n := 32) (c := 1) Try.underlying22 (by kernel_rfl) (by kernel_rfl) (reads8_u8 0 Try.underlying5)) a b ha hb 9998
def x9 : List UInt8 := 9 :: List.replicate 31 0
theorem x9_length : x9.length = 32 := by simp [x9]
theorem awake_ne : stepL 7 1 1 (stepL 7 1 0 x9) ≠ zeros32 := by decide +kernel
theorem awake_dig : digitsL zeros32 = List.replicate 64 0 ++ [3, 12, 0] := by decide +kernel

set_option maxRecDepth 100000 in
set_option maxHeartbeats 2000000 in
theorem awake_core (X Y : List UInt8) (w : World) (hX : Hid (X.length = 32))
    (hd : ∀ W, Calls Try.prog 13 #[.agg (c8 zeros32).toArray] W fun e w' => e = .returned (.agg (c8 (List.replicate 64 0 ++ [3, 12, 0])).toArray) ∧ W.grownBy w' none)
    (hcl : ∀ W, Calls Try.prog 10 #[.int .u32 7, .int .u8 1, .agg (c8 x9).toArray, .int .i64 0, .int .i64 2] W fun e w' => e = .returned (.tuple #[.agg (c8 X).toArray, .int .i64 0]) ∧ W.grownBy w' none)
    (hs1 : ∀ W, Calls Try.prog 17 #[.agg #[.int .u32 7, .int .u8 1, .int .u8 0], .agg (c8 x9).toArray] W fun e w' => e = .returned (.agg (c8 Y).toArray) ∧ W.grownBy w' none)
    (hs2 : ∀ W, Calls Try.prog 17 #[.agg #[.int .u32 7, .int .u8 1, .int .u8 1], .agg (c8 Y).toArray] W fun e w' => e = .returned (.agg (c8 X).toArray) ∧ W.grownBy w' none)
    (heq : ∀ W : World, (Op.equalIn 10000 24 (.agg (c8 X).toArray) (.agg (c8 X).toArray)).run Try.prog W = .ok true W)
    (hne : ∀ W : World, (Op.equalIn 10000 24 (.agg (c8 X).toArray) (.agg (c8 zeros32).toArray)).run Try.prog W = .ok false W) :
    Calls Try.prog 11 #[] w fun e w' => e = .returned (.bool true) ∧ w.grownBy w' none := by
  obtain ⟨DD, hDD⟩ : ∃ DD, DD = (List.replicate 64 0 ++ [3, 12, 0] : List UInt8) := ⟨_, rfl⟩
  have hDl : DD.length = 67 := by rw [hDD]; simp
  have d0 : (c8 DD)[0]? = some (.int .u8 0) := by rw [hDD]; rfl
  have d1 : (c8 DD)[64]? = some (.int .u8 3) := by rw [hDD]; rfl
  have d2 : (c8 DD)[65]? = some (.int .u8 12) := by rw [hDD]; rfl
  have d3 : (c8 DD)[66]? = some (.int .u8 0) := by rw [hDD]; rfl
  rw [← hDD] at hd
  have D0 := Lib.hid d0
  have D1 := Lib.hid d1
  have D2 := Lib.hid d2
  have D3 := Lib.hid d3
  have HI := Lib.hid (info_67 DD hDl)
  have HF := Lib.hid (show 0 + (c8 DD).length ≤ (c8 z67).length by rw [c8_length, c8_length, hDl]; decide)
  have HE := Lib.hid (show (c8 DD).length = (c8 z67).length by rw [c8_length, c8_length, hDl]; decide)
  have HIX := Lib.hid (info_dg X hX.out)
  have HFX := Lib.hid (show 0 + (c8 X).length ≤ zd.length by rw [c8_length, hX.out]; decide)
  have HEX := Lib.hid (show (c8 X).length = zd.length by rw [c8_length, hX.out]; decide)
  clear hDD hDl d0 d1 d2 d3
  have hne' : ∀ W : World, (Op.equalIn 10000 24 (.agg (c8 X).toArray) (.agg #[Value.int .u8 0, Value.int .u8 0, Value.int .u8 0, Value.int .u8 0, Value.int .u8 0, Value.int .u8 0, Value.int .u8 0, Value.int .u8 0, Value.int .u8 0, Value.int .u8 0, Value.int .u8 0, Value.int .u8 0, Value.int .u8 0, Value.int .u8 0, Value.int .u8 0, Value.int .u8 0, Value.int .u8 0, Value.int .u8 0, Value.int .u8 0, Value.int .u8 0, Value.int .u8 0, Value.int .u8 0, Value.int .u8 0, Value.int .u8 0, Value.int .u8 0, Value.int .u8 0, Value.int .u8 0, Value.int .u8 0, Value.int .u8 0, Value.int .u8 0, Value.int .u8 0, Value.int .u8 0])).run Try.prog W = .ok false W := hne
  clear hne
  have hS0 := Own.start w
  go_enter Try.func11, Try.ntmps11
  go_wp2_with fail
  refine (hd _).mono ?_
  rintro e w1 ⟨rfl, hg⟩
  have hS1 := hS0.call hg
  clear hg hS0
  go_wp2_with (refine wp_alloc (o := ⟨some 1, _, _, _, _, _⟩) rfl 31 rfl _ alloc_67 ?_)
  intro w2 hr hg hz
  clear hz
  have hS2 := hS1.new hr hg
  clear hr hg
  go_wp2_with (refine wp_storeAgg rfl 31 (.tmp 1) (.tmp 6) rfl w1.heap.size 0 31 (c8 z67) (c8 DD) rfl rfl (hS2.row 0 rfl) HI.out HF.out (one8 _) ?_)
  intro w3 hr hg _
  rw [splice_all HE.out] at hr
  have hS3 := hS2.setRow 0 rfl hr hg
  clear hS2 hS1 hr hg
  go_wp2_with fail
  refine (hcl _).mono ?_
  rintro e w4 ⟨rfl, hg⟩
  have hS4 := hS3.call hg
  clear hg hS3
  go_wp2_with (refine wp_alloc (o := ⟨some 2, _, _, _, _, _⟩) rfl 24 rfl _ alloc_d ?_)
  intro w5 hr hg hz
  clear hz
  have hS5 := hS4.new hr hg
  clear hr hg
  go_wp2_with (refine wp_storeAgg rfl 24 (.tmp 2) (.tmp 10) rfl w4.heap.size 0 24 zd (c8 X) rfl rfl (hS5.row 0 rfl) HIX.out HFX.out (one8 _) ?_)
  intro w6 hr hg _
  rw [splice_all HEX.out] at hr
  have hS6 := hS5.setRow 0 rfl hr hg
  clear hS5 hS4 hr hg
  go_wp2_with fail
  refine (hs1 _).mono ?_
  rintro e w7 ⟨rfl, hg⟩
  have hS7 := hS6.call hg
  clear hg hS6
  go_wp2_with fail
  refine (hs2 _).mono ?_
  rintro e w8 ⟨rfl, hg⟩
  have hS8 := hS7.call hg
  clear hg hS7
  go_wp2_with (refine wp_alloc (o := ⟨some 4, _, _, _, _, _⟩) rfl 24 rfl _ alloc_d ?_)
  intro w9 hr hg hz
  clear hz
  have hS9 := hS8.new hr hg
  clear hr hg
  go_wp2_with (refine wp_storeAgg rfl 24 (.tmp 4) (.tmp 16) rfl w8.heap.size 0 24 zd (c8 X) rfl rfl (hS9.row 0 rfl) HIX.out HFX.out (one8 _) ?_)
  intro w10 hr hg _
  rw [splice_all HEX.out] at hr
  have hSA := hS9.setRow 0 rfl hr hg
  clear hS9 hS8 hr hg
  have c0 := ((hSA.row 2 rfl).cell 0).trans D0.out
  have c1 := ((hSA.row 2 rfl).cell 64).trans D1.out
  have c2 := ((hSA.row 2 rfl).cell 65).trans D2.out
  have c3 := ((hSA.row 2 rfl).cell 66).trans D3.out
  go_wp2_with (first | (refine wp_load rfl 24 (.tmp 2) rfl Try.underlying24 rfl ⟨w4.heap.size, 0, none⟩ rfl (c8 X) HIX.out (row_all (hSA.row 1 rfl)) ?_) | (refine wp_load rfl 24 (.tmp 4) rfl Try.underlying24 rfl ⟨w8.heap.size, 0, none⟩ rfl (c8 X) HIX.out (row_all (hSA.row 0 rfl)) ?_))
  go_ret
  exact ⟨rfl, hSA.grown⟩
theorem awake_any (w : World) : Calls Try.prog 11 #[] w fun e w' => e = .returned (.bool true) ∧ w.grownBy w' none := by
  have hne := awake_ne
  obtain ⟨X, hX⟩ : ∃ X, X = stepL 7 1 1 (stepL 7 1 0 x9) := ⟨_, rfl⟩
  have hXl : X.length = 32 := by rw [hX]; exact stepL_length _ _ _ _
  rw [← hX] at hne
  refine awake_core X (stepL 7 1 0 x9) w (Lib.hid hXl) (fun W => ?_) (fun W => ?_) (fun W => step_any 7 1 0 x9 W x9_length (by omega)) (fun W => ?_) (fun W => ?_) (fun W => ?_)
  · rw [← awake_dig]; exact digits_any zeros32 W zeros32_length
  · have := climb_any 7 1 x9 0 2 W x9_length (by omega) (by omega) (by omega)
    rw [hX]; exact this
  · rw [hX]; exact step_any 7 1 1 (stepL 7 1 0 x9) W (stepL_length _ _ _ _) (by omega)
  · rw [eq_dg W X X hXl hXl, decide_eq_true rfl]
  · rw [eq_dg W X zeros32 hXl zeros32_length, decide_eq_false hne]
end Go.Proofs.Ytfaekebglijebaa
