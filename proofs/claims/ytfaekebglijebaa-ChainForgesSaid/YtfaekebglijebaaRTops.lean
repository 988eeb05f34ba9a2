/- The contract of the document's Tops. -/
import Derived.Test.YtfaekebglijebaaRecov
import Derived.Test.YtfaekebglijebaaRDigits
import Derived.Test.YtfaekebglijebaaRPub
import Derived.Test.YtfaekebglijebaaMix3
namespace Go.Proofs.Ytfaekebglijebaa
open Go.RowKit
set_option linter.unusedVariables false

set_option maxRecDepth 100000 in
set_option maxHeartbeats 4000000 in
theorem rtops_any (key : Nat) (m l : List UInt8) (w : World) (hm : m.length = 32) (hl : l.length = 2144) (hk : key < 4294967296) :
    Calls Try.prog 25 #[.int .u32 (key : Int), .agg (c8 m).toArray, .agg (c8 l).toArray] w fun e w' => e = .returned (.agg (c8 (topsL key m l)).toArray) ∧ w.grownBy w' none := by
  obtain ⟨k0, k1⟩ := secret_key hk
  have HL := Lib.hid hl
  have HKY := Lib.hid hk
  have HMD := Lib.hid (info_a32 m hm)
  have hdig := fun W => rdigits_any m W hm
  have hdc := dig_cells' m
  have hdl := digitsL_length m
  obtain ⟨DG, hDG⟩ : ∃ DG, DG = digitsL m := ⟨_, rfl⟩
  rw [← hDG] at hdig hdc hdl
  have HDC := Lib.hid hdc
  have HT := Lib.hid (fun c (hc : c < 67) => topL_length key m l c hl hc)
  have HCH := Lib.hid (fun c (hc : c < 67) => chunk32_length l c 67 hl hc)
  have HID := Lib.hid (info_67 DG hdl)
  have HFD := Lib.hid (show 0 + (c8 DG).length ≤ (c8 z67).length by rw [c8_length, c8_length, hdl]; decide)
  have HED := Lib.hid (show (c8 DG).length = (c8 z67).length by rw [c8_length, c8_length, hdl]; decide)
  clear hl hk hm hdc hdl hDG
  go_enter Try.func25, Try.ntmps25
  go_wp2_with (refine wp_box (o := ⟨some 4, _, _, _, _, _⟩) rfl 22 (.tmp 1) rfl (c8 m) rfl ?_)
  intro w1 hr hg hz
  clear hz
  have hS1 := ((Own.start w)).new hr hg
  clear hr hg
  go_wp2_with (refine wp_box (o := ⟨some 5, _, _, _, _, _⟩) rfl 45 (.tmp 2) rfl (c8 l) rfl ?_)
  intro w2 hr hg hz
  clear hz
  have hS2 := (hS1).new hr hg
  clear hr hg
  go_wp2_with (refine wp_alloc (o := ⟨some 6, _, _, _, _, _⟩) rfl 45 rfl _ alloc_f32 ?_)
  intro w3 hr hg hz
  clear hz
  have hS3 := hS2.new hr hg
  clear hr hg
  clear hS1 hS2
  go_wp2_with (first | (refine wp_load rfl 22 (.tmp 4) rfl Try.underlying22 rfl ⟨w.heap.size, 0, none⟩ rfl (c8 m) HMD.out (row_all (hS3.row 2 rfl)) ?_))
  refine (hdig _).mono ?_
  rintro e w4 ⟨rfl, hg⟩
  have hS4 := hS3.call hg
  clear hg hS3
  go_wp2_with (refine wp_alloc (o := ⟨some 7, _, _, _, _, _⟩) rfl 31 rfl _ alloc_67 ?_)
  intro w5 hr hg hz
  clear hz
  have hS5 := hS4.new hr hg
  clear hr hg
  go_wp2_with (refine wp_storeAgg rfl 31 (.tmp 7) (.tmp 10) rfl w4.heap.size 0 31 (c8 z67) (c8 DG) rfl rfl (hS5.row 0 rfl) HID.out HFD.out (one8 _) ?_)
  intro w6 hr hg hz
  clear hz
  rw [splice_all HED.out] at hr
  have hS6 := hS5.setRow 0 rfl hr hg
  clear hS4 hS5 hr hg hdig
  go_wp2
  go_loopw [8] (fun iv wr => ∃ k : Nat, k ≤ 67 ∧ iv = .int .i64 (k : Int) ∧ Own w wr [rowE w4.heap.size 31 (c8 DG), rowE w2.heap.size 45 (c8 z2144), rowE w1.heap.size 45 (c8 (mx (topL key m l) l k)), rowE w.heap.size 22 (c8 m)]) (fun iv _ => 67 - (intOf iv).toNat)
  case atStart => exact ⟨0, by omega, rfl, by rw [mx_zero]; exact hS6⟩
  case round =>
    clear hS6
    obtain ⟨k, hk, rfl, hS⟩ := hrel
    by_cases hlt : k < 67
    · have q1 : (k : Int) < 67 := by omega
      have hf : ∀ c, c < k → (topL key m l c).length = 32 := fun c hc => HT.out c (by omega)
      have hml := mx_length (topL key m l) l k hf hk HL.out
      have hst := mx_step (topL key m l) l k hf (HT.out k hlt)
      have hch := mx_chunk (topL key m l) l k hf
      have hcl := fun W => rclimb_any key (u8c k) (chunk32 l k) (digN67 m k) 15 W (HCH.out k hlt) HKY.out (by have := digN67_lt m k; omega) (by omega)
      obtain ⟨hd16, hdcell⟩ := HDC.out k hlt
      have hXl := HT.out k hlt
      have hCl := HCH.out k hlt
      rw [u8c_n8 k (by omega)] at hcl
      obtain ⟨X, hX⟩ : ∃ X, X = topL key m l k := ⟨_, rfl⟩
      rw [show climbL key (u8c k) (15 - digN67 m k) (digN67 m k) (chunk32 l k) = X from hX.symm] at hcl
      rw [← hX] at hst hXl
      obtain ⟨Cx, hCx⟩ : ∃ Cx, Cx = chunk32 l k := ⟨_, rfl⟩
      rw [← hCx] at hcl hch hCl
      obtain ⟨d, hd⟩ : ∃ d, d = digN67 m k := ⟨_, rfl⟩
      rw [← hd] at hcl hd16 hdcell
      have d0 : (0 : Int) ≤ (d : Int) := by omega
      have d1 : (d : Int) < 16 := by omega
      have HST := Lib.hid hst
      have HROW := Lib.hid hch
      have HDG := Lib.hid hdcell
      have HFL := Lib.hid (show k * 32 + (c8 X).length ≤ (c8 (mx (topL key m l) l k)).length by rw [c8_length, c8_length, hml, hXl]; omega)
      have HXD := Lib.hid (info_a32 X hXl)
      have HCD := Lib.hid (info_a32 Cx hCl)
      have HK := Lib.hid (show k < 67 from hlt)
      clear hX hst hXl hml hlt hk hch hf hCx hCl hd hd16 hdcell
      go_wp2_with fail
      have hS5 := hS.drew
      clear hS
      refine wp_region_mixC (fun W => Own w W _) (fun i => i != 13) [(0, true), (1, true), (2, true), (3, true), (4, true), (5, true), (6, true), (7, true), (8, true), (9, true), (10, true), (11, false), (12, true), (13, false)] (by kernel_rfl) (by kernel_rfl) hS5 ?_
      iterate 6 (refine wpMix_step rfl (fun K hK => ?_); go_simp; (try go_bits); with_reducible refine hK _ ?_; clear hK K)
      refine wpMix_pureW (.agg (c8 Cx).toArray) rfl rfl (fun W hW => run_load_op 22 (.tmp 20) rfl Try.underlying22 rfl ⟨w1.heap.size, k * 32, none⟩ rfl _ HCD.out (by have h := row_chunk (hW.row 2 rfl) k; rw [HROW.out] at h; exact h)) ?_
      iterate 2 (refine wpMix_step rfl (fun K hK => ?_); go_simp; (try go_bits); with_reducible refine hK _ ?_; clear hK K)
      refine wpMix_pureW _ rfl rfl (fun W hW => run_load_cell 5 (.tmp 23) rfl Try.underlying5 rfl ⟨w4.heap.size, k, none⟩ rfl _ (((hW.row 0 rfl).cell k).trans HDG.out)) ?_
      iterate 1 (refine wpMix_step rfl (fun K hK => ?_); go_simp; (try go_bits); with_reducible refine hK _ ?_; clear hK K)
      refine wpMix_loudW _ rfl rfl ?_
      go_wp2_with fail
      refine (hcl _).mono ?_
      rintro e w6 ⟨rfl, hg⟩
      have hS6 := hS5.call hg
      clear hg hS5
      go_wp2_with fail
      refine wpMix_next' (fun _ => hS6) ?_
      iterate 1 (refine wpMix_step rfl (fun K hK => ?_); go_simp; (try go_bits); with_reducible refine hK _ ?_; clear hK K)
      clear hcl HROW
      refine wpMix_loudW _ rfl rfl ?_
      go_wp2_with (refine wp_storeAgg rfl 22 (.tmp 27) (.tmp 26) rfl w1.heap.size (k * 32) 45 (c8 (mx (topL key m l) l k)) (c8 X) rfl rfl (hS6.row 2 rfl) HXD.out HFL.out (one8 _) ?_)
      intro w7 hr hg hz
      clear hz
      rw [HST.out] at hr
      have hS7 := hS6.setRow 2 rfl hr hg
      clear hS6 hr hg
      go_wp2_with fail
      refine wpMix_next' (fun h => absurd h (by decide)) ?_
      unfold wpMix
      go_wp2
      go_roundw
      case rel => exact ⟨k + 1, by have := HK.out; omega, by go_num, hS7⟩
      case measure => simp [intOf] <;> omega
    · obtain rfl : k = 67 := by omega
      rw [mx_full _ _ HL.out] at hS
      have hEl := topsL_length key m l HL.out
      obtain ⟨D, hD⟩ : ∃ D, D = flatN (topL key m l) 67 := ⟨_, rfl⟩
      have hDl : D.length = 2144 := by rw [hD]; exact hEl
      rw [← hD] at hS
      have HRES := Lib.hid (show D = topsL key m l from hD)
      have HFIT := Lib.hid (show 0 + (c8 D).length ≤ (c8 z2144).length by rw [c8_length, c8_length, hDl]; simp [z2144])
      have HEQ := Lib.hid (show (c8 D).length = (c8 z2144).length by rw [c8_length, c8_length, hDl]; simp [z2144])
      have HI := Lib.hid (info_f32 D hDl)
      clear hD hEl hDl hlt hk
      go_wp2_with (first | (refine wp_load rfl 45 (.tmp 5) rfl Try.underlying45 rfl ⟨w1.heap.size, 0, none⟩ rfl (c8 D) HI.out (row_all (hS.row 2 rfl)) ?_) | (refine wp_storeAgg rfl 45 (.tmp 6) (.tmp 28) rfl w2.heap.size 0 45 (c8 z2144) (c8 (D)) rfl rfl (hS.row 1 rfl) HI.out HFIT.out (one8 _) ?_))
      intro wz hdr hgz _
      rw [splice_all HEQ.out] at hdr
      have hSz := hS.setRow 1 rfl hdr hgz
      clear hdr hgz hS
      go_wp2
      refine bodyPost_ret (v := .agg (c8 (D)).toArray) (results_cell_row rfl _ _ w2.heap.size _ _ _ _ rfl (hSz.row 1 rfl) Try.underlying45 rfl HI.out) rfl ⟨(by rw [HRES.out]), hSz.grown⟩
end Go.Proofs.Ytfaekebglijebaa
