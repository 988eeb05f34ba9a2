/- The walk of the law ChainSteps. -/
import Derived.Test.YtfaekebglijebaaAwake4
import Derived.Test.YtfaekebglijebaaWf
namespace Go.Proofs.Ytfaekebglijebaa
open Go.RowKit
set_option linter.unusedVariables false

set_option maxRecDepth 100000 in
set_option maxHeartbeats 2000000 in
theorem steps_core (w : World) (x S T : List UInt8) (key c s : Int) (HI : Hid ((Try.prog.info? 22).map (·.size) = some (c8 x).length))
    (c1 : ∀ W, Calls Try.prog 15 #[.agg (c8 x).toArray, .int .u32 key, .int .u8 c] W fun e w' => e = .returned (.agg (c8 S).toArray) ∧ W.grownBy w' none)
    (c2 : ∀ W, Calls Try.prog 16 #[.agg (c8 x).toArray, .int .u32 key, .int .u8 c] W fun e w' => e = .returned (.agg (c8 S).toArray) ∧ W.grownBy w' none)
    (c3 : ∀ W, Calls Try.prog 17 #[.agg #[.int .u32 key, .int .u8 c, .int .u8 s], .agg (c8 x).toArray] W fun e w' => e = .returned (.agg (c8 T).toArray) ∧ W.grownBy w' none)
    (c4 : ∀ W, Calls Try.prog 18 #[.int .u32 key, .int .u8 c, .int .u8 s, .agg (c8 x).toArray] W fun e w' => e = .returned (.agg (c8 T).toArray) ∧ W.grownBy w' none)
    (e1 : ∀ W : World, (Op.equalIn 10000 24 (.agg (c8 S).toArray) (.agg (c8 S).toArray)).run Try.prog W = .ok true W)
    (e2 : ∀ W : World, (Op.equalIn 10000 24 (.agg (c8 T).toArray) (.agg (c8 T).toArray)).run Try.prog W = .ok true W) :
    Calls Try.prog 6 #[.agg (c8 x).toArray, .int .u32 key, .int .u8 c, .int .u8 s] w fun e w' => e = .returned (.bool true) ∧ w.grownBy w' none := by
  go_enter Try.func6, Try.ntmps6
  go_wp2_with (refine wp_box (o := ⟨some 4, _, _, _, _, _⟩) rfl 22 (.tmp 0) rfl (c8 x) rfl ?_)
  intro w1 hr hg hz
  clear hz
  have hS1 := ((Own.start w)).new hr hg
  clear hr hg
  go_wp2_with fail
  have hS := hS1.drew
  clear hS1
  refine wp_region_mixC (fun W => Own w W _) (fun _ => true) [(0, false), (1, true), (2, true), (3, true), (4, true), (6, true), (7, true), (8, true), (5, false), (9, false), (10, true), (11, true), (12, true), (13, true), (14, true), (15, true), (16, true), (17, true), (19, true), (20, true), (21, true), (22, true), (18, false), (23, false), (24, true), (25, true), (26, false)] (by kernel_rfl) (by kernel_rfl) hS ?_
  refine wpMix_loudW _ rfl rfl ?_
  go_wp2_with fail
  refine (awake_any _).mono ?_
  rintro e w2 ⟨rfl, hg⟩
  have hS2 := hS.call hg
  clear hg hS
  go_wp2_with fail
  refine wpMix_next' (fun _ => hS2) ?_
  iterate 1 (refine wpMix_step rfl (fun K hK => ?_); go_simp; (try go_bits); with_reducible refine hK _ ?_; clear hK K)
  refine wpMix_pureW (.agg (c8 x).toArray) rfl rfl (fun W hW => run_load_op 22 (.tmp 4) rfl Try.underlying22 rfl ⟨w.heap.size, 0, none⟩ rfl _ HI.out (row_all (hW.row 0 rfl))) ?_
  iterate 2 (refine wpMix_step rfl (fun K hK => ?_); go_simp; (try go_bits); with_reducible refine hK _ ?_; clear hK K)
  refine wpMix_pureW (.agg (c8 x).toArray) rfl rfl (fun W hW => run_load_op 22 (.tmp 4) rfl Try.underlying22 rfl ⟨w.heap.size, 0, none⟩ rfl _ HI.out (row_all (hW.row 0 rfl))) ?_
  iterate 2 (refine wpMix_step rfl (fun K hK => ?_); go_simp; (try go_bits); with_reducible refine hK _ ?_; clear hK K)
  refine wpMix_loudW _ rfl rfl ?_
  go_wp2_with fail
  refine (c1 _).mono ?_
  rintro e w3 ⟨rfl, hg⟩
  have hS3 := hS2.call hg
  clear hg hS2
  go_wp2_with fail
  refine wpMix_next' (fun _ => hS3) ?_
  refine wpMix_loudW _ rfl rfl ?_
  go_wp2_with fail
  refine (c2 _).mono ?_
  rintro e w4 ⟨rfl, hg⟩
  have hS4 := hS3.call hg
  clear hg hS3
  go_wp2_with fail
  refine wpMix_next' (fun _ => hS4) ?_
  iterate 7 (refine wpMix_step rfl (fun K hK => ?_); go_simp; (try go_bits); with_reducible refine hK _ ?_; clear hK K)
  refine wpMix_pureW (.agg (c8 x).toArray) rfl rfl (fun W hW => run_load_op 22 (.tmp 4) rfl Try.underlying22 rfl ⟨w.heap.size, 0, none⟩ rfl _ HI.out (row_all (hW.row 0 rfl))) ?_
  iterate 3 (refine wpMix_step rfl (fun K hK => ?_); go_simp; (try go_bits); with_reducible refine hK _ ?_; clear hK K)
  refine wpMix_pureW (.agg (c8 x).toArray) rfl rfl (fun W hW => run_load_op 22 (.tmp 4) rfl Try.underlying22 rfl ⟨w.heap.size, 0, none⟩ rfl _ HI.out (row_all (hW.row 0 rfl))) ?_
  refine wpMix_loudW _ rfl rfl ?_
  go_wp2_with fail
  refine (c3 _).mono ?_
  rintro e w5 ⟨rfl, hg⟩
  have hS5 := hS4.call hg
  clear hg hS4
  go_wp2_with fail
  refine wpMix_next' (fun _ => hS5) ?_
  refine wpMix_loudW _ rfl rfl ?_
  go_wp2_with fail
  refine (c4 _).mono ?_
  rintro e w6 ⟨rfl, hg⟩
  have hS6 := hS5.call hg
  clear hg hS5
  go_wp2_with fail
  refine wpMix_next' (fun _ => hS6) ?_
  iterate 2 (refine wpMix_step rfl (fun K hK => ?_); go_simp; (try go_bits); with_reducible refine hK _ ?_; clear hK K)
  refine wpMix_loudW _ rfl rfl ?_
  go_wp2_with fail
  refine wpMix_next' (fun _ => hS6) ?_
  unfold wpMix
  go_wp2
  go_ret
  exact ⟨rfl, hS6.grown⟩
theorem walk_ChainSteps (w : World) (x : List UInt8) (hx : x.length = 32) (key : Int) (wk : (Lit.int .u32 key).wf = true) (c : Int) (wc : (Lit.int .u8 c).wf = true) (s : Int) (ws : (Lit.int .u8 s).wf = true) :
    Calls Try.prog 6 #[.agg (c8 x).toArray, .int .u32 key, .int .u8 c, .int .u8 s] w fun e w' => e = .returned (.bool true) ∧ w.grownBy w' none := by
  obtain ⟨k, rfl, hk⟩ := of_u32 wk
  obtain ⟨C, rfl⟩ := of_u8 wc
  obtain ⟨S, rfl⟩ := of_u8 ws
  refine steps_core w x (secretL x k C) (stepL k C S x) k (n8 C) (n8 S) (Lib.hid (info_a32 x hx)) (fun W => secret_any x k C W hx hk) (fun W => rsecret_any x k C W hx hk) (fun W => step_any k C S x W hx hk) (fun W => rstep_any k C S x W hx hk) (fun W => ?_) (fun W => ?_)
  · rw [eq_dg W _ _ (secretL_length _ _ _) (secretL_length _ _ _), decide_eq_true rfl]
  · rw [eq_dg W _ _ (stepL_length _ _ _ _) (stepL_length _ _ _ _), decide_eq_true rfl]
end Go.Proofs.Ytfaekebglijebaa
