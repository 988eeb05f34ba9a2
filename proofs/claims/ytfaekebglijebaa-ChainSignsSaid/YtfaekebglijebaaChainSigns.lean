/- The walk of the law ChainSigns. -/
import Derived.Test.YtfaekebglijebaaRSign
import Derived.Test.YtfaekebglijebaaAwake4
import Derived.Test.YtfaekebglijebaaWf
namespace Go.Proofs.Ytfaekebglijebaa
open Go.RowKit
set_option linter.unusedVariables false

set_option maxRecDepth 100000 in
set_option maxHeartbeats 4000000 in
theorem signs_core (w : World) (x m G U : List UInt8) (key : Int) (HX : Hid (x.length = 32)) (HM : Hid (m.length = 32)) (HG : Hid (G.length = 2144)) (HU : Hid (U.length = 32))
    (c1 : ∀ W, Calls Try.prog 28 #[.agg (c8 x).toArray, .int .u32 key, .agg (c8 m).toArray] W fun e w' => e = .returned (.agg (c8 G).toArray) ∧ W.grownBy w' none)
    (c2 : ∀ W, Calls Try.prog 22 #[.agg (c8 x).toArray, .int .u32 key, .agg (c8 m).toArray] W fun e w' => e = .returned (.agg (c8 G).toArray) ∧ W.grownBy w' none)
    (c3 : ∀ W, Calls Try.prog 23 #[.agg (c8 x).toArray, .int .u32 key] W fun e w' => e = .returned (.agg (c8 U).toArray) ∧ W.grownBy w' none)
    (c4 : ∀ W, Calls Try.prog 29 #[.agg (c8 G).toArray] W fun e w' => e = .returned (.agg (c8 G).toArray) ∧ W.grownBy w' none)
    (c5 : ∀ W, Calls Try.prog 30 #[.agg (c8 x).toArray, .int .u32 key] W fun e w' => e = .returned (.agg (c8 U).toArray) ∧ W.grownBy w' none)
    (c6 : ∀ W, Calls Try.prog 19 #[.int .u32 key, .agg (c8 m).toArray, .agg (c8 G).toArray] W fun e w' => e = .returned (.agg (c8 U).toArray) ∧ W.grownBy w' none)
    (e1 : ∀ W : World, (Op.equalIn 10000 45 (.agg (c8 G).toArray) (.agg (c8 G).toArray)).run Try.prog W = .ok true W)
    (e2 : ∀ W : World, (Op.equalIn 10000 24 (.agg (c8 U).toArray) (.agg (c8 U).toArray)).run Try.prog W = .ok true W) :
    Calls Try.prog 9 #[.agg (c8 x).toArray, .int .u32 key, .agg (c8 m).toArray] w fun e w' => e = .returned (.bool true) ∧ w.grownBy w' none := by
  have IX := Lib.hid (info_a32 x HX.out)
  have IM := Lib.hid (info_a32 m HM.out)
  have IGD := Lib.hid (info_fd G HG.out)
  have IGA := Lib.hid (info_f32 G HG.out)
  have IU := Lib.hid (info_dg U HU.out)
  have FG := Lib.hid (show 0 + (c8 G).length ≤ (c8 z2144).length by rw [c8_length, c8_length, HG.out]; simp [z2144])
  have EG := Lib.hid (show (c8 G).length = (c8 z2144).length by rw [c8_length, c8_length, HG.out]; simp [z2144])
  have FU := Lib.hid (show 0 + (c8 U).length ≤ zd.length by rw [c8_length, HU.out]; decide)
  have EU := Lib.hid (show (c8 U).length = zd.length by rw [c8_length, HU.out]; decide)
  go_enter Try.func9, Try.ntmps9
  go_wp2_with (refine wp_box (o := ⟨some 3, _, _, _, _, _⟩) rfl 22 (.tmp 0) rfl (c8 x) rfl ?_)
  intro w1 hr hg hz
  clear hz
  have hS1 := ((Own.start w)).new hr hg
  clear hr hg
  go_wp2_with (refine wp_box (o := ⟨some 5, _, _, _, _, _⟩) rfl 22 (.tmp 2) rfl (c8 m) rfl ?_)
  intro w2 hr hg hz
  clear hz
  have hS2 := (hS1).new hr hg
  clear hr hg
  clear hS1
  go_wp2_with (first | (refine wp_load rfl 22 (.tmp 3) rfl Try.underlying22 rfl ⟨w.heap.size, 0, none⟩ rfl (c8 x) IX.out (row_all (hS2.row 1 rfl)) ?_) | (refine wp_load rfl 22 (.tmp 5) rfl Try.underlying22 rfl ⟨w1.heap.size, 0, none⟩ rfl (c8 m) IM.out (row_all (hS2.row 0 rfl)) ?_))
  refine (c1 _).mono ?_
  rintro e w3 ⟨rfl, hg⟩
  have hS3 := hS2.call hg
  clear hg hS2
  go_wp2_with (refine wp_alloc (o := ⟨some 7, _, _, _, _, _⟩) rfl 47 rfl _ alloc_fd ?_)
  intro w4 hr hg hz
  clear hz
  have hS4 := hS3.new hr hg
  clear hr hg
  go_wp2_with (refine wp_storeAgg rfl 47 (.tmp 7) (.tmp 13) rfl w3.heap.size 0 47 (c8 z2144) (c8 G) rfl rfl (hS4.row 0 rfl) IGD.out FG.out (one8 _) ?_)
  intro w5 hr hg hz
  clear hz
  rw [splice_all EG.out] at hr
  have hS5 := hS4.setRow 0 rfl hr hg
  clear hS3 hS4 hr hg c1
  go_wp2_with (first | (refine wp_load rfl 22 (.tmp 3) rfl Try.underlying22 rfl ⟨w.heap.size, 0, none⟩ rfl (c8 x) IX.out (row_all (hS5.row 2 rfl)) ?_) | (refine wp_load rfl 22 (.tmp 5) rfl Try.underlying22 rfl ⟨w1.heap.size, 0, none⟩ rfl (c8 m) IM.out (row_all (hS5.row 1 rfl)) ?_))
  refine (c2 _).mono ?_
  rintro e w6 ⟨rfl, hg⟩
  have hS6 := hS5.call hg
  clear hg hS5
  go_wp2_with (refine wp_alloc (o := ⟨some 8, _, _, _, _, _⟩) rfl 45 rfl _ alloc_f32 ?_)
  intro w7 hr hg hz
  clear hz
  have hS7 := hS6.new hr hg
  clear hr hg
  go_wp2_with (refine wp_storeAgg rfl 45 (.tmp 8) (.tmp 17) rfl w6.heap.size 0 45 (c8 z2144) (c8 G) rfl rfl (hS7.row 0 rfl) IGA.out FG.out (one8 _) ?_)
  intro w8 hr hg hz
  clear hz
  rw [splice_all EG.out] at hr
  have hS8 := hS7.setRow 0 rfl hr hg
  clear hS6 hS7 hr hg c2
  go_wp2_with (first | (refine wp_load rfl 22 (.tmp 3) rfl Try.underlying22 rfl ⟨w.heap.size, 0, none⟩ rfl (c8 x) IX.out (row_all (hS8.row 3 rfl)) ?_))
  refine (c3 _).mono ?_
  rintro e w9 ⟨rfl, hg⟩
  have hS9 := hS8.call hg
  clear hg hS8
  go_wp2_with (refine wp_alloc (o := ⟨some 9, _, _, _, _, _⟩) rfl 24 rfl _ alloc_d ?_)
  intro w10 hr hg hz
  clear hz
  have hS10 := hS9.new hr hg
  clear hr hg
  go_wp2_with (refine wp_storeAgg rfl 24 (.tmp 9) (.tmp 20) rfl w9.heap.size 0 24 zd (c8 U) rfl rfl (hS10.row 0 rfl) IU.out FU.out (one8 _) ?_)
  intro w11 hr hg hz
  clear hz
  rw [splice_all EU.out] at hr
  have hSB := hS10.setRow 0 rfl hr hg
  clear hS9 hS10 hr hg c3
  go_wp2_with fail
  have hS := hSB.drew
  clear hSB
  refine wp_region_mixC (fun W => Own w W _) (fun _ => true) [(0, false), (1, true), (2, true), (4, true), (3, false), (5, true), (6, true), (7, true), (8, true), (9, true), (10, true), (11, false), (12, true), (13, true), (14, true), (15, true), (16, true), (17, true), (19, true), (18, false), (20, true), (21, true), (22, false)] (by kernel_rfl) (by kernel_rfl) hS ?_
  refine wpMix_loudW _ rfl rfl ?_
  go_wp2_with fail
  refine (awake_any _).mono ?_
  rintro e wC ⟨rfl, hg⟩
  have hSC := hS.call hg
  clear hg hS
  go_wp2_with fail
  refine wpMix_next' (fun _ => hSC) ?_
  iterate 1 (refine wpMix_step rfl (fun K hK => ?_); go_simp; (try go_bits); with_reducible refine hK _ ?_; clear hK K)
  refine wpMix_pureW (.agg (c8 G).toArray) rfl rfl (fun W hW => run_load_op 47 (.tmp 7) rfl Try.underlying47 rfl ⟨w3.heap.size, 0, none⟩ rfl _ IGD.out (row_all (hW.row 2 rfl))) ?_
  refine wpMix_pureW (.agg (c8 G).toArray) rfl rfl (fun W hW => run_load_op 45 (.tmp 8) rfl Try.underlying45 rfl ⟨w6.heap.size, 0, none⟩ rfl _ IGA.out (row_all (hW.row 1 rfl))) ?_
  refine wpMix_loudW _ rfl rfl ?_
  go_wp2_with fail
  refine (c4 _).mono ?_
  rintro e wD ⟨rfl, hg⟩
  have hSD := hSC.call hg
  clear hg hSC
  go_wp2_with fail
  refine wpMix_next' (fun _ => hSD) ?_
  iterate 3 (refine wpMix_step rfl (fun K hK => ?_); go_simp; (try go_bits); with_reducible refine hK _ ?_; clear hK K)
  refine wpMix_pureW (.agg (c8 U).toArray) rfl rfl (fun W hW => run_load_op 24 (.tmp 9) rfl Try.underlying24 rfl ⟨w9.heap.size, 0, none⟩ rfl _ IU.out (row_all (hW.row 0 rfl))) ?_
  refine wpMix_pureW (.agg (c8 x).toArray) rfl rfl (fun W hW => run_load_op 22 (.tmp 3) rfl Try.underlying22 rfl ⟨w.heap.size, 0, none⟩ rfl _ IX.out (row_all (hW.row 4 rfl))) ?_
  iterate 1 (refine wpMix_step rfl (fun K hK => ?_); go_simp; (try go_bits); with_reducible refine hK _ ?_; clear hK K)
  refine wpMix_loudW _ rfl rfl ?_
  go_wp2_with fail
  refine (c5 _).mono ?_
  rintro e wE ⟨rfl, hg⟩
  have hSE := hSD.call hg
  clear hg hSD
  go_wp2_with fail
  refine wpMix_next' (fun _ => hSE) ?_
  iterate 4 (refine wpMix_step rfl (fun K hK => ?_); go_simp; (try go_bits); with_reducible refine hK _ ?_; clear hK K)
  refine wpMix_pureW (.agg (c8 m).toArray) rfl rfl (fun W hW => run_load_op 22 (.tmp 5) rfl Try.underlying22 rfl ⟨w1.heap.size, 0, none⟩ rfl _ IM.out (row_all (hW.row 3 rfl))) ?_
  refine wpMix_pureW (.agg (c8 G).toArray) rfl rfl (fun W hW => run_load_op 47 (.tmp 7) rfl Try.underlying47 rfl ⟨w3.heap.size, 0, none⟩ rfl _ IGD.out (row_all (hW.row 2 rfl))) ?_
  refine wpMix_pureW (.agg (c8 U).toArray) rfl rfl (fun W hW => run_load_op 24 (.tmp 9) rfl Try.underlying24 rfl ⟨w9.heap.size, 0, none⟩ rfl _ IU.out (row_all (hW.row 0 rfl))) ?_
  refine wpMix_loudW _ rfl rfl ?_
  go_wp2_with fail
  refine (c6 _).mono ?_
  rintro e wF ⟨rfl, hg⟩
  have hSF := hSE.call hg
  clear hg hSE
  go_wp2_with fail
  refine wpMix_next' (fun _ => hSF) ?_
  iterate 2 (refine wpMix_step rfl (fun K hK => ?_); go_simp; (try go_bits); with_reducible refine hK _ ?_; clear hK K)
  refine wpMix_loudW _ rfl rfl ?_
  go_wp2_with fail
  refine wpMix_next' (fun _ => hSF) ?_
  unfold wpMix
  go_wp2
  go_ret
  exact ⟨rfl, hSF.grown⟩
theorem walk_ChainSigns (w : World) (x : List UInt8) (hx : x.length = 32) (key : Int) (wk : (Lit.int .u32 key).wf = true) (m : List UInt8) (hm : m.length = 32) :
    Calls Try.prog 9 #[.agg (c8 x).toArray, .int .u32 key, .agg (c8 m).toArray] w fun e w' => e = .returned (.bool true) ∧ w.grownBy w' none := by
  obtain ⟨k, rfl, hk⟩ := of_u32 wk
  have hG := signL_length x k m
  have hU : (publicL x k).length = 32 := sha_length _
  refine signs_core w x m (signL x k m) (publicL x k) k (Lib.hid hx) (Lib.hid hm) (Lib.hid hG) (Lib.hid hU) (fun W => sign_any x k m W hx hm hk) (fun W => rsign_any x k m W hx hm hk) (fun W => public_any x k W hx hk)
    (fun W => from_any _ W hG) (fun W => rpublic_any x k W hx hk) (fun W => ?_) (fun W => ?_) (fun W => ?_)
  · rw [← recover_own]; exact recover_any k m _ W hm hG hk
  · rw [eq_f32 W _ _ hG hG, decide_eq_true rfl]
  · rw [eq_dg W _ _ hU hU, decide_eq_true rfl]
end Go.Proofs.Ytfaekebglijebaa
