/- The walk of the law ChainClimbs. -/
import Derived.Test.YtfaekebglijebaaAwake4
import Derived.Test.YtfaekebglijebaaWf
namespace Go.Proofs.Ytfaekebglijebaa
open Go.RowKit
set_option linter.unusedVariables false

set_option maxRecDepth 100000 in
set_option maxHeartbeats 2000000 in
theorem climbs_bad (w : World) (x : List UInt8) (key c a b : Int) (HI : Hid ((Try.prog.info? 22).map (·.size) = some (c8 x).length)) (h : a < 0 ∨ (0 ≤ a ∧ 15 < b) ∨ (0 ≤ a ∧ b ≤ 15 ∧ b < a))
    (hcl : ∀ W, Calls Try.prog 10 #[.int .u32 key, .int .u8 c, .agg (c8 x).toArray, .int .i64 a, .int .i64 b] W fun e w' => e = .returned (.tuple #[.agg (c8 zeros32).toArray, .int .i64 1]) ∧ W.grownBy w' none)
    (heq : ∀ W : World, (Op.equalIn 10000 24 (.agg (c8 zeros32).toArray) (.agg (c8 zeros32).toArray)).run Try.prog W = .ok true W) :
    Calls Try.prog 3 #[.agg (c8 x).toArray, .int .u32 key, .int .u8 c, .int .i64 a, .int .i64 b] w fun e w' => e = .returned (.bool true) ∧ w.grownBy w' none := by
  have heq' : ∀ W : World, (Op.equalIn 10000 24 (.agg (c8 zeros32).toArray) (.agg #[Value.int .u8 0, Value.int .u8 0, Value.int .u8 0, Value.int .u8 0, Value.int .u8 0, Value.int .u8 0, Value.int .u8 0, Value.int .u8 0, Value.int .u8 0, Value.int .u8 0, Value.int .u8 0, Value.int .u8 0, Value.int .u8 0, Value.int .u8 0, Value.int .u8 0, Value.int .u8 0, Value.int .u8 0, Value.int .u8 0, Value.int .u8 0, Value.int .u8 0, Value.int .u8 0, Value.int .u8 0, Value.int .u8 0, Value.int .u8 0, Value.int .u8 0, Value.int .u8 0, Value.int .u8 0, Value.int .u8 0, Value.int .u8 0, Value.int .u8 0, Value.int .u8 0, Value.int .u8 0])).run Try.prog W = .ok true W := heq
  clear heq
  have HIZ := Lib.hid (info_dg zeros32 zeros32_length)
  go_enter Try.func3, Try.ntmps3
  go_wp2_with (refine wp_box (o := ⟨some 5, _, _, _, _, _⟩) rfl 22 (.tmp 0) rfl (c8 x) rfl ?_)
  intro w1 hr hg hz
  clear hz
  have hS1 := ((Own.start w)).new hr hg
  clear hr hg
  go_wp2_with (first | (refine wp_load rfl 22 (.tmp 5) rfl Try.underlying22 rfl ⟨w.heap.size, 0, none⟩ rfl (c8 x) HI.out (row_all (hS1.row 0 rfl)) ?_))
  refine (hcl _).mono ?_
  rintro e w2 ⟨rfl, hg⟩
  have hS2 := hS1.call hg
  clear hg hS1
  clear hcl
  go_wp2_with (refine wp_alloc (o := ⟨some 11, _, _, _, _, _⟩) rfl 24 rfl _ alloc_d ?_)
  intro w3 hr hg hz
  clear hz
  have hS3 := hS2.new hr hg
  clear hr hg
  go_wp2_with (refine wp_storeAgg rfl 24 (.tmp 11) (.tmp 25) rfl w2.heap.size 0 24 zd (c8 zeros32) rfl rfl (hS3.row 0 rfl) HIZ.out (by decide) (one8 _) ?_)
  intro w4 hr hg _
  rw [splice_all (by decide)] at hr
  have hS4 := hS3.setRow 0 rfl hr hg
  clear hS3 hS2 hr hg
  go_wp2_with fail
  refine (awake_any _).mono ?_
  rintro e w5 ⟨rfl, hg⟩
  have hS5 := hS4.call hg
  clear hg hS4
  rcases h with h1 | ⟨h1, h2⟩ | ⟨h1, h2, h3⟩
  · go_wp2_with fail
    refine (awake_any _).mono ?_
    rintro e w6 ⟨rfl, hg⟩
    have hS6 := hS5.call hg
    clear hg hS5
    go_wp2_with (first | (refine wp_load rfl 24 (.tmp 11) rfl Try.underlying24 rfl ⟨w2.heap.size, 0, none⟩ rfl (c8 zeros32) HIZ.out (row_all (hS6.row 0 rfl)) ?_))
    go_ret
    exact ⟨rfl, hS6.grown⟩
  · go_wp2_with fail
    refine (awake_any _).mono ?_
    rintro e w6 ⟨rfl, hg⟩
    have hS6 := hS5.call hg
    clear hg hS5
    go_wp2_with (first | (refine wp_load rfl 24 (.tmp 11) rfl Try.underlying24 rfl ⟨w2.heap.size, 0, none⟩ rfl (c8 zeros32) HIZ.out (row_all (hS6.row 0 rfl)) ?_))
    go_ret
    exact ⟨rfl, hS6.grown⟩
  · go_wp2_with fail
    refine (awake_any _).mono ?_
    rintro e w6 ⟨rfl, hg⟩
    have hS6 := hS5.call hg
    clear hg hS5
    go_wp2_with (first | (refine wp_load rfl 24 (.tmp 11) rfl Try.underlying24 rfl ⟨w2.heap.size, 0, none⟩ rfl (c8 zeros32) HIZ.out (row_all (hS6.row 0 rfl)) ?_))
    go_ret
    exact ⟨rfl, hS6.grown⟩

set_option maxRecDepth 100000 in
set_option maxHeartbeats 2000000 in
theorem climbs_core (w : World) (x Y Z : List UInt8) (key c : Int) (a b M : Nat) (hab : a ≤ b) (hb : b ≤ 15) (hM : M = a + (b - a) / 2) (hYl : Y.length = 32) (hZl : Z.length = 32) (HI : Hid ((Try.prog.info? 22).map (·.size) = some (c8 x).length))
    (c1 : ∀ W, Calls Try.prog 10 #[.int .u32 key, .int .u8 c, .agg (c8 x).toArray, .int .i64 (a : Int), .int .i64 (b : Int)] W fun e w' => e = .returned (.tuple #[.agg (c8 Y).toArray, .int .i64 0]) ∧ W.grownBy w' none)
    (c2 : ∀ W, Calls Try.prog 12 #[.int .u32 key, .int .u8 c, .agg (c8 x).toArray, .int .i64 (a : Int), .int .i64 (b : Int)] W fun e w' => e = .returned (.agg (c8 Y).toArray) ∧ W.grownBy w' none)
    (c3 : ∀ W, Calls Try.prog 10 #[.int .u32 key, .int .u8 c, .agg (c8 x).toArray, .int .i64 (a : Int), .int .i64 (M : Int)] W fun e w' => e = .returned (.tuple #[.agg (c8 Z).toArray, .int .i64 0]) ∧ W.grownBy w' none)
    (c4 : ∀ W, Calls Try.prog 10 #[.int .u32 key, .int .u8 c, .agg (c8 Z).toArray, .int .i64 (M : Int), .int .i64 (b : Int)] W fun e w' => e = .returned (.tuple #[.agg (c8 Y).toArray, .int .i64 0]) ∧ W.grownBy w' none)
    (heq : ∀ W : World, (Op.equalIn 10000 24 (.agg (c8 Y).toArray) (.agg (c8 Y).toArray)).run Try.prog W = .ok true W) :
    Calls Try.prog 3 #[.agg (c8 x).toArray, .int .u32 key, .int .u8 c, .int .i64 (a : Int), .int .i64 (b : Int)] w fun e w' => e = .returned (.bool true) ∧ w.grownBy w' none := by
  have HIY := Lib.hid (info_dg Y hYl)
  have HFY := Lib.hid (show 0 + (c8 Y).length ≤ zd.length by rw [c8_length, hYl]; decide)
  have HEY := Lib.hid (show (c8 Y).length = zd.length by rw [c8_length, hYl]; decide)
  have HIZ := Lib.hid (info_dg Z hZl)
  have HFZ := Lib.hid (show 0 + (c8 Z).length ≤ zd.length by rw [c8_length, hZl]; decide)
  have HEZ := Lib.hid (show (c8 Z).length = zd.length by rw [c8_length, hZl]; decide)
  have a0 : (0 : Int) ≤ (a : Int) := by omega
  have a1 : (b : Int) ≤ 15 := by omega
  have a2 : (a : Int) ≤ (b : Int) := by omega
  have m1 : (a : Int) + ((b : Int) - (a : Int)) / 2 = (M : Int) := by omega
  have t1 : decide ((a : Int) < 0) = false := by simp
  have t2 : decide ((15 : Int) < (b : Int)) = false := by simp; omega
  have t3 : decide ((b : Int) < (a : Int)) = false := by simp; omega
  have t3' : decide (b < a) = false := by simp; omega
  clear hYl hZl hM
  go_enter Try.func3, Try.ntmps3
  go_wp2_with (refine wp_box (o := ⟨some 5, _, _, _, _, _⟩) rfl 22 (.tmp 0) rfl (c8 x) rfl ?_)
  intro w1 hr hg hz
  clear hz
  have hS1 := ((Own.start w)).new hr hg
  clear hr hg
  go_wp2_with (first | (refine wp_load rfl 22 (.tmp 5) rfl Try.underlying22 rfl ⟨w.heap.size, 0, none⟩ rfl (c8 x) HI.out (row_all (hS1.row 0 rfl)) ?_))
  refine (c1 _).mono ?_
  rintro e w2 ⟨rfl, hg⟩
  have hS2 := hS1.call hg
  clear hg hS1
  go_wp2_with (refine wp_alloc (o := ⟨some 11, _, _, _, _, _⟩) rfl 24 rfl _ alloc_d ?_)
  intro w3 hr hg hz
  clear hz
  have hS3 := hS2.new hr hg
  clear hr hg
  go_wp2_with (refine wp_storeAgg rfl 24 (.tmp 11) (.tmp 25) rfl w2.heap.size 0 24 zd (c8 Y) rfl rfl (hS3.row 0 rfl) HIY.out HFY.out (one8 _) ?_)
  intro w4 hr hg _
  rw [splice_all HEY.out] at hr
  have hS4 := hS3.setRow 0 rfl hr hg
  clear hS3 hS2 hr hg
  go_wp2_with fail
  refine (awake_any _).mono ?_
  rintro e w5 ⟨rfl, hg⟩
  have hS5 := hS4.call hg
  clear hg hS4
  go_wp2_with fail
  have hS := hS5.drew
  clear hS5
  refine wp_region_mixC (fun W => Own w W _) (fun _ => true) [(0, true), (1, true), (2, true), (3, true), (4, true), (5, true), (6, true), (7, true), (8, true), (9, false), (10, true), (11, true)] (by kernel_rfl) (by kernel_rfl) hS ?_
  iterate 3 (refine wpMix_step rfl (fun K hK => ?_); go_simp; (try go_bits); with_reducible refine hK _ ?_; clear hK K)
  refine wpMix_pureW (.agg (c8 Y).toArray) rfl rfl (fun W hW => run_load_op 24 (.tmp 11) rfl Try.underlying24 rfl ⟨w2.heap.size, 0, none⟩ rfl _ HIY.out (row_all (hW.row 0 rfl))) ?_
  iterate 2 (refine wpMix_step rfl (fun K hK => ?_); go_simp; (try go_bits); with_reducible refine hK _ ?_; clear hK K)
  refine wpMix_pureW (.agg (c8 x).toArray) rfl rfl (fun W hW => run_load_op 22 (.tmp 5) rfl Try.underlying22 rfl ⟨w.heap.size, 0, none⟩ rfl _ HI.out (row_all (hW.row 1 rfl))) ?_
  iterate 2 (refine wpMix_step rfl (fun K hK => ?_); go_simp; (try go_bits); with_reducible refine hK _ ?_; clear hK K)
  refine wpMix_loudW _ rfl rfl ?_
  go_wp2_with fail
  refine (c2 _).mono ?_
  rintro e w6 ⟨rfl, hg⟩
  have hS6 := hS.call hg
  clear hg hS
  go_wp2_with fail
  refine wpMix_next' (fun _ => hS6) ?_
  iterate 2 (refine wpMix_step rfl (fun K hK => ?_); go_simp; (try go_bits); with_reducible refine hK _ ?_; clear hK K)
  unfold wpMix
  go_wp2_with (first | (refine wp_load rfl 22 (.tmp 5) rfl Try.underlying22 rfl ⟨w.heap.size, 0, none⟩ rfl (c8 x) HI.out (row_all (hS6.row 1 rfl)) ?_))
  refine (c3 _).mono ?_
  rintro e w7 ⟨rfl, hg⟩
  have hS7 := hS6.call hg
  clear hg hS6
  go_wp2_with (refine wp_alloc (o := ⟨some 14, _, _, _, _, _⟩) rfl 24 rfl _ alloc_d ?_)
  intro w8 hr hg hz
  clear hz
  have hS8 := hS7.new hr hg
  clear hr hg
  go_wp2_with (refine wp_storeAgg rfl 24 (.tmp 14) (.tmp 77) rfl w7.heap.size 0 24 zd (c8 Z) rfl rfl (hS8.row 0 rfl) HIZ.out HFZ.out (one8 _) ?_)
  intro w9 hr hg _
  rw [splice_all HEZ.out] at hr
  have hS9 := hS8.setRow 0 rfl hr hg
  clear hS8 hS7 hr hg
  go_wp2_with (first | (refine wp_load rfl 24 (.tmp 14) rfl Try.underlying24 rfl ⟨w7.heap.size, 0, none⟩ rfl (c8 Z) HIZ.out (row_all (hS9.row 0 rfl)) ?_))
  refine (c4 _).mono ?_
  rintro e wA ⟨rfl, hg⟩
  have hSA := hS9.call hg
  clear hg hS9
  go_wp2_with (refine wp_alloc (o := ⟨some 16, _, _, _, _, _⟩) rfl 24 rfl _ alloc_d ?_)
  intro w11 hr hg hz
  clear hz
  have hS11 := hSA.new hr hg
  clear hr hg
  go_wp2_with (refine wp_storeAgg rfl 24 (.tmp 16) (.tmp 86) rfl wA.heap.size 0 24 zd (c8 Y) rfl rfl (hS11.row 0 rfl) HIY.out HFY.out (one8 _) ?_)
  intro w12 hr hg _
  rw [splice_all HEY.out] at hr
  have hS12 := hS11.setRow 0 rfl hr hg
  clear hS11 hSA hr hg
  go_wp2_with (first | (refine wp_load rfl 24 (.tmp 16) rfl Try.underlying24 rfl ⟨wA.heap.size, 0, none⟩ rfl (c8 Y) HIY.out (row_all (hS12.row 0 rfl)) ?_) | (refine wp_load rfl 24 (.tmp 11) rfl Try.underlying24 rfl ⟨w2.heap.size, 0, none⟩ rfl (c8 Y) HIY.out (row_all (hS12.row 2 rfl)) ?_))
  go_ret
  exact ⟨rfl, hS12.grown⟩
theorem walk_ChainClimbs (w : World) (x : List UInt8) (hx : x.length = 32) (key : Int) (wk : (Lit.int .u32 key).wf = true) (c : Int) (wc : (Lit.int .u8 c).wf = true) (a : Int) (wa : (Lit.int .i64 a).wf = true) (b : Int) (wb : (Lit.int .i64 b).wf = true) :
    Calls Try.prog 3 #[.agg (c8 x).toArray, .int .u32 key, .int .u8 c, .int .i64 a, .int .i64 b] w fun e w' => e = .returned (.bool true) ∧ w.grownBy w' none := by
  obtain ⟨k, rfl, hk⟩ := of_u32 wk
  obtain ⟨C, rfl⟩ := of_u8 wc
  by_cases h : a < 0 ∨ (0 ≤ a ∧ 15 < b) ∨ (0 ≤ a ∧ b ≤ 15 ∧ b < a)
  · refine climbs_bad w x k (n8 C) a b (Lib.hid (info_a32 x hx)) h (fun W => climb_bad k (n8 C) x a b W hx h) (fun W => ?_)
    rw [eq_dg W _ _ zeros32_length zeros32_length, decide_eq_true rfl]
  · obtain ⟨A, rfl⟩ : ∃ A : Nat, a = (A : Int) := ⟨a.toNat, by omega⟩
    obtain ⟨B, rfl⟩ : ∃ B : Nat, b = (B : Int) := ⟨b.toNat, by omega⟩
    have hab : A ≤ B := by omega
    have hb : B ≤ 15 := by omega
    have hYl : (climbL k C (B - A) A x).length = 32 := climbL_length _ _ _ _ _ hx
    have hZl : (climbL k C ((B - A) / 2) A x).length = 32 := climbL_length _ _ _ _ _ hx
    refine climbs_core w x (climbL k C (B - A) A x) (climbL k C ((B - A) / 2) A x) k (n8 C) A B (A + (B - A) / 2) hab hb rfl hYl hZl (Lib.hid (info_a32 x hx)) (fun W => climb_any k C x A B W hx hk hab hb) (fun W => rclimb_any k C x A B W hx hk hab hb) (fun W => ?_) (fun W => ?_) (fun W => ?_)
    · have := climb_any k C x A (A + (B - A) / 2) W hx hk (by omega) (by omega)
      rwa [Nat.add_sub_cancel_left] at this
    · have := climb_any k C (climbL k C ((B - A) / 2) A x) (A + (B - A) / 2) B W hZl hk (by omega) (by omega)
      rw [← climbL_add, show (B - A) / 2 + (B - (A + (B - A) / 2)) = B - A by omega] at this
      exact this
    · rw [eq_dg W _ _ hYl hYl, decide_eq_true rfl]
end Go.Proofs.Ytfaekebglijebaa
