/- The contract of the document's Sign. -/
import Derived.Test.YtfaekebglijebaaRRecov
namespace Go.Proofs.Ytfaekebglijebaa
open Go.RowKit
set_option linter.unusedVariables false

set_option maxRecDepth 100000 in
set_option maxHeartbeats 4000000 in
theorem rsign_any (seed : List UInt8) (key : Nat) (m : List UInt8) (w : World) (hs : seed.length = 32) (hm : m.length = 32) (hk : key < 4294967296) :
    Calls Try.prog 22 #[.agg (c8 seed).toArray, .int .u32 (key : Int), .agg (c8 m).toArray] w fun e w' => e = .returned (.agg (c8 (signL seed key m)).toArray) ∧ w.grownBy w' none := by
  obtain ⟨k0, k1⟩ := secret_key hk
  have HL := Lib.hid hs
  have HKY := Lib.hid hk
  have HSD := Lib.hid (info_a32 seed hs)
  have HMD := Lib.hid (info_a32 m hm)
  have hdig := fun W => rdigits_any m W hm
  have hdc := dig_cells' m
  have hdl := digitsL_length m
  obtain ⟨DG, hDG⟩ : ∃ DG, DG = digitsL m := ⟨_, rfl⟩
  rw [← hDG] at hdig hdc hdl
  have HDC := Lib.hid hdc
  have HDLEN := Lib.hid hdl
  have HID := Lib.hid (info_67 DG hdl)
  have HFD := Lib.hid (show 0 + (c8 DG).length ≤ (c8 z67).length by rw [c8_length, c8_length, hdl]; decide)
  have HED := Lib.hid (show (c8 DG).length = (c8 z67).length by rw [c8_length, c8_length, hdl]; decide)
  clear hs hk hm hdc hdl hDG
  go_enter Try.func22, Try.ntmps22
  go_wp2_with (refine wp_box (o := ⟨some 3, _, _, _, _, _⟩) rfl 22 (.tmp 0) rfl (c8 seed) rfl ?_)
  intro w1 hr hg hz
  clear hz
  have hS1 := ((Own.start w)).new hr hg
  clear hr hg
  go_wp2_with (refine wp_box (o := ⟨some 5, _, _, _, _, _⟩) rfl 22 (.tmp 2) rfl (c8 m) rfl ?_)
  intro w2 hr hg hz
  clear hz
  have hS2 := (hS1).new hr hg
  clear hr hg
  go_wp2_with (refine wp_alloc (o := ⟨some 6, _, _, _, _, _⟩) rfl 45 rfl _ alloc_f32 ?_)
  intro w3 hr hg hz
  clear hz
  have hS3 := hS2.new hr hg
  clear hr hg
  clear hS1 hS2
  go_wp2_with (first | (refine wp_load rfl 22 (.tmp 5) rfl Try.underlying22 rfl ⟨w1.heap.size, 0, none⟩ rfl (c8 m) HMD.out (row_all (hS3.row 1 rfl)) ?_))
  refine (hdig _).mono ?_
  rintro e w4 ⟨rfl, hg⟩
  have hS4 := hS3.call hg
  clear hg hS3
  go_wp2_with (refine wp_alloc (o := ⟨some 7, _, _, _, _, _⟩) rfl 31 rfl _ alloc_67 ?_)
  intro w5 hr hg hz
  clear hz
  have hS5 := hS4.new hr hg
  clear hr hg
  go_wp2_with (refine wp_storeAgg rfl 31 (.tmp 7) (.tmp 11) rfl w4.heap.size 0 31 (c8 z67) (c8 DG) rfl rfl (hS5.row 0 rfl) HID.out HFD.out (one8 _) ?_)
  intro w6 hr hg hz
  clear hz
  rw [splice_all HED.out] at hr
  have hS6 := hS5.setRow 0 rfl hr hg
  clear hS4 hS5 hr hg hdig
  go_wp2_with (refine wp_alloc (o := ⟨some 8, _, _, _, _, _⟩) rfl 45 rfl _ alloc_f32 ?_)
  intro w7 hr hg hz
  clear hz
  have hS7 := hS6.new hr hg
  clear hr hg
  clear hS6
  go_wp2
  go_loopw [9] (fun iv wr => ∃ k : Nat, k ≤ 67 ∧ iv = .int .i64 (k : Int) ∧ Own w wr [rowE w6.heap.size 45 (c8 (fl (sigL seed key m) k)), rowE w4.heap.size 31 (c8 DG), rowE w2.heap.size 45 (c8 z2144), rowE w1.heap.size 22 (c8 m), rowE w.heap.size 22 (c8 seed)]) (fun iv _ => 67 - (intOf iv).toNat)
  case atStart => exact ⟨0, by omega, rfl, by rw [fl_zero]; exact hS7⟩
  case round =>
    clear hS7
    obtain ⟨k, hk, rfl, hS⟩ := hrel
    by_cases hlt : k < 67
    · have q1 : (k : Int) < 67 := by omega
      have hfl := fl_length (sigL seed key m) k (fun c _ => sigL_length _ _ _ c) hk
      have hst := fl_step (sigL seed key m) k (fun c _ => sigL_length _ _ _ c) hlt (sigL_length _ _ _ k)
      have hsec := fun W => rsecret_any seed key (u8c k) W HL.out HKY.out
      have hcl := fun W => rclimb_any key (u8c k) (secretL seed key (u8c k)) 0 (digN67 m k) W (secretL_length _ _ _) HKY.out (by omega) (by have := digN67_lt m k; omega)
      obtain ⟨hd16, hdcell⟩ := HDC.out k hlt
      have hXl := sigL_length seed key m k
      rw [u8c_n8 k (by omega)] at hsec hcl
      obtain ⟨X, hX⟩ : ∃ X, X = sigL seed key m k := ⟨_, rfl⟩
      rw [show climbL key (u8c k) (digN67 m k - 0) 0 (secretL seed key (u8c k)) = X from hX.symm] at hcl
      obtain ⟨d, hd⟩ : ∃ d, d = digN67 m k := ⟨_, rfl⟩
      rw [← hd] at hcl hd16 hdcell
      have d0 : (0 : Int) ≤ (d : Int) := by omega
      have d1 : (d : Int) < 16 := by omega
      rw [← hX] at hst hXl
      obtain ⟨Sx, hSx⟩ : ∃ Sx, Sx = secretL seed key (u8c k) := ⟨_, rfl⟩
      rw [← hSx] at hsec hcl
      have HST := Lib.hid hst
      have HFL := Lib.hid (show k * 32 + (c8 X).length ≤ (c8 (fl (sigL seed key m) k)).length by rw [c8_length, c8_length, hfl, hXl]; omega)
      have HXD := Lib.hid (info_a32 X hXl)
      have HK := Lib.hid (show k < 67 from hlt)
      have HDG := Lib.hid hdcell
      have HCL : Hid (∀ W, Calls Try.prog 12 #[.int .u32 (key : Int), .int .u8 (k : Int), .agg (c8 Sx).toArray, .int .i64 0, .int .i64 (d : Int)] W fun e w' => e = .returned (.agg (c8 X).toArray) ∧ W.grownBy w' none) := Lib.hid hcl
      clear hX hSx hst hXl hfl hlt hk hcl hd hd16 hdcell
      go_wp2_with fail
      have hS5 := hS.drew
      clear hS
      refine wp_region_mixC (fun W => Own w W _) (fun i => i != 15) [(0, true), (1, true), (2, true), (3, true), (4, true), (5, true), (6, true), (7, true), (9, true), (10, true), (11, true), (12, true), (8, false), (13, false), (14, true), (15, false)] (by kernel_rfl) (by kernel_rfl) hS5 ?_
      iterate 4 (refine wpMix_step rfl (fun K hK => ?_); go_simp; (try go_bits); with_reducible refine hK _ ?_; clear hK K)
      refine wpMix_pureW (.agg (c8 seed).toArray) rfl rfl (fun W hW => run_load_op 22 (.tmp 3) rfl Try.underlying22 rfl ⟨w.heap.size, 0, none⟩ rfl _ HSD.out (row_all (hW.row 4 rfl))) ?_
      iterate 5 (refine wpMix_step rfl (fun K hK => ?_); go_simp; (try go_bits); with_reducible refine hK _ ?_; clear hK K)
      refine wpMix_pureW _ rfl rfl (fun W hW => run_load_cell 5 (.tmp 26) rfl Try.underlying5 rfl ⟨w4.heap.size, k, none⟩ rfl _ (((hW.row 1 rfl).cell k).trans HDG.out)) ?_
      iterate 1 (refine wpMix_step rfl (fun K hK => ?_); go_simp; (try go_bits); with_reducible refine hK _ ?_; clear hK K)
      refine wpMix_loudW _ rfl rfl ?_
      go_wp2_with fail
      refine (hsec _).mono ?_
      rintro e w8 ⟨rfl, hg⟩
      have hS8 := hS5.call hg
      clear hg hS5
      go_wp2_with fail
      refine wpMix_next' (fun _ => hS8) ?_
      refine wpMix_loudW _ rfl rfl ?_
      go_wp2_with fail
      refine (HCL.out _).mono ?_
      rintro e w9 ⟨rfl, hg⟩
      have hS6 := hS8.call hg
      clear hg hS8
      go_wp2_with fail
      refine wpMix_next' (fun _ => hS6) ?_
      iterate 1 (refine wpMix_step rfl (fun K hK => ?_); go_simp; (try go_bits); with_reducible refine hK _ ?_; clear hK K)
      clear hsec
      refine wpMix_loudW _ rfl rfl ?_
      go_wp2_with (refine wp_storeAgg rfl 22 (.tmp 30) (.tmp 29) rfl w6.heap.size (k * 32) 45 (c8 (fl (sigL seed key m) k)) (c8 X) rfl rfl (hS6.row 0 rfl) HXD.out HFL.out (one8 _) ?_)
      intro w7 hr hg hz
      clear hz
      rw [HST.out] at hr
      have hS7 := hS6.setRow 0 rfl hr hg
      clear hS6 hr hg
      go_wp2_with fail
      refine wpMix_next' (fun h => absurd h (by decide)) ?_
      unfold wpMix
      go_wp2
      go_roundw
      case rel => exact ⟨k + 1, by have := HK.out; omega, by go_num, hS7⟩
      case measure => simp [intOf] <;> omega
    · obtain rfl : k = 67 := by omega
      rw [fl_full] at hS
      have hEl := signL_length seed key m
      obtain ⟨D, hD⟩ : ∃ D, D = flatN (sigL seed key m) 67 := ⟨_, rfl⟩
      have hDl : D.length = 2144 := by rw [hD]; exact hEl
      rw [← hD] at hS
      have HRES := Lib.hid (show D = signL seed key m from hD)
      have HFIT := Lib.hid (show 0 + (c8 D).length ≤ (c8 z2144).length by rw [c8_length, c8_length, hDl]; simp [z2144])
      have HEQ := Lib.hid (show (c8 D).length = (c8 z2144).length by rw [c8_length, c8_length, hDl]; simp [z2144])
      have HI := Lib.hid (info_f32 D hDl)
      clear hD hEl hDl hlt hk
      go_wp2_with (first | (refine wp_load rfl 45 (.tmp 8) rfl Try.underlying45 rfl ⟨w6.heap.size, 0, none⟩ rfl (c8 D) HI.out (row_all (hS.row 0 rfl)) ?_) | (refine wp_storeAgg rfl 45 (.tmp 6) (.tmp 31) rfl w2.heap.size 0 45 (c8 z2144) (c8 (D)) rfl rfl (hS.row 2 rfl) HI.out HFIT.out (one8 _) ?_))
      intro wz hdr hgz _
      rw [splice_all HEQ.out] at hdr
      have hSz := hS.setRow 2 rfl hdr hgz
      clear hdr hgz hS
      go_wp2
      refine bodyPost_ret (v := .agg (c8 (D)).toArray) (results_cell_row rfl _ _ w2.heap.size _ _ _ _ rfl (hSz.row 2 rfl) Try.underlying45 rfl HI.out) rfl ⟨(by rw [HRES.out]), hSz.grown⟩
end Go.Proofs.Ytfaekebglijebaa
