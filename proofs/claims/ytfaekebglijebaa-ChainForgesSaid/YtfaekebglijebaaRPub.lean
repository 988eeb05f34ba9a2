/- The contracts of the document's Ends and Public. -/
import Derived.Test.YtfaekebglijebaaPub
namespace Go.Proofs.Ytfaekebglijebaa
open Go.RowKit
set_option linter.unusedVariables false

set_option maxRecDepth 100000 in
set_option maxHeartbeats 4000000 in
theorem rends_any (seed : List UInt8) (key : Nat) (w : World) (hs : seed.length = 32) (hk : key < 4294967296) :
    Calls Try.prog 24 #[.agg (c8 seed).toArray, .int .u32 (key : Int)] w fun e w' => e = .returned (.agg (c8 (endsL seed key)).toArray) ∧ w.grownBy w' none := by
  obtain ⟨k0, k1⟩ := secret_key hk
  have HL := Lib.hid hs
  have HKY := Lib.hid hk
  have HSD := Lib.hid (info_a32 seed hs)
  clear hs hk
  go_enter Try.func24, Try.ntmps24
  go_wp2_with (refine wp_box (o := ⟨some 2, _, _, _, _, _⟩) rfl 22 (.tmp 0) rfl (c8 seed) rfl ?_)
  intro w1 hr hg hz
  clear hz
  have hS1 := ((Own.start w)).new hr hg
  clear hr hg
  go_wp2_with (refine wp_alloc (o := ⟨some 4, _, _, _, _, _⟩) rfl 45 rfl _ alloc_f32 ?_)
  intro w2 hr hg hz
  clear hz
  have hS2 := hS1.new hr hg
  clear hr hg
  go_wp2_with (refine wp_alloc (o := ⟨some 5, _, _, _, _, _⟩) rfl 45 rfl _ alloc_f32 ?_)
  intro w3 hr hg hz
  clear hz
  have hS3 := hS2.new hr hg
  clear hr hg
  clear hS1 hS2
  go_wp2
  go_loopw [6] (fun iv wr => ∃ k : Nat, k ≤ 67 ∧ iv = .int .i64 (k : Int) ∧ Own w wr [rowE w2.heap.size 45 (c8 (fl (endL seed key) k)), rowE w1.heap.size 45 (c8 z2144), rowE w.heap.size 22 (c8 seed)]) (fun iv _ => 67 - (intOf iv).toNat)
  case atStart => exact ⟨0, by omega, rfl, by rw [fl_zero]; exact hS3⟩
  case round =>
    clear hS3
    obtain ⟨k, hk, rfl, hS⟩ := hrel
    by_cases hlt : k < 67
    · have q1 : (k : Int) < 67 := by omega
      have hfl := fl_length (endL seed key) k (fun c _ => endL_length _ _ c) hk
      have hst := fl_step (endL seed key) k (fun c _ => endL_length _ _ c) hlt (endL_length _ _ k)
      have hsec := fun W => rsecret_any seed key (u8c k) W HL.out HKY.out
      have hcl := fun W => rclimb_any key (u8c k) (secretL seed key (u8c k)) 0 15 W (secretL_length _ _ _) HKY.out (by omega) (by omega)
      have hXl := endL_length seed key k
      rw [u8c_n8 k (by omega)] at hsec hcl
      obtain ⟨X, hX⟩ : ∃ X, X = endL seed key k := ⟨_, rfl⟩
      rw [show climbL key (u8c k) (15 - 0) 0 (secretL seed key (u8c k)) = X from hX.symm] at hcl
      rw [← hX] at hst hXl
      obtain ⟨Sx, hSx⟩ : ∃ Sx, Sx = secretL seed key (u8c k) := ⟨_, rfl⟩
      rw [← hSx] at hsec hcl
      have HST := Lib.hid hst
      have HFL := Lib.hid (show k * 32 + (c8 X).length ≤ (c8 (fl (endL seed key) k)).length by rw [c8_length, c8_length, hfl, hXl]; omega)
      have HXD := Lib.hid (info_a32 X hXl)
      have HK := Lib.hid (show k < 67 from hlt)
      have HCL : Hid (∀ W, Calls Try.prog 12 #[.int .u32 (key : Int), .int .u8 (k : Int), .agg (c8 Sx).toArray, .int .i64 0, .int .i64 15] W fun e w' => e = .returned (.agg (c8 X).toArray) ∧ W.grownBy w' none) := Lib.hid hcl
      clear hX hSx hst hXl hfl hlt hk hcl
      go_wp2_with (first | (refine wp_load rfl 22 (.tmp 2) rfl Try.underlying22 rfl ⟨w.heap.size, 0, none⟩ rfl (c8 seed) HSD.out (row_all (hS.row 2 rfl)) ?_))
      refine (hsec _).mono ?_
      rintro e w5 ⟨rfl, hg⟩
      have hS5 := hS.call hg
      clear hg hS
      clear hsec
      go_wp2_with fail
      refine (HCL.out _).mono ?_
      rintro e w6 ⟨rfl, hg⟩
      have hS6 := hS5.call hg
      clear hg hS5
      go_wp2_with (refine wp_storeAgg rfl 22 (.tmp 21) (.tmp 20) rfl w2.heap.size (k * 32) 45 (c8 (fl (endL seed key) k)) (c8 X) rfl rfl (hS6.row 0 rfl) HXD.out HFL.out (one8 _) ?_)
      intro w7 hr hg hz
      clear hz
      rw [HST.out] at hr
      have hS7 := hS6.setRow 0 rfl hr hg
      clear hS6 hr hg
      go_wp2
      go_roundw
      case rel => exact ⟨k + 1, by have := HK.out; omega, by go_num, hS7⟩
      case measure => simp [intOf] <;> omega
    · obtain rfl : k = 67 := by omega
      rw [fl_full] at hS
      have hEl := endsL_length seed key
      obtain ⟨D, hD⟩ : ∃ D, D = flatN (endL seed key) 67 := ⟨_, rfl⟩
      have hDl : D.length = 2144 := by rw [hD]; exact hEl
      rw [← hD] at hS
      have HRES := Lib.hid (show D = endsL seed key from hD)
      have HFIT := Lib.hid (show 0 + (c8 D).length ≤ (c8 z2144).length by rw [c8_length, c8_length, hDl]; simp [z2144])
      have HEQ := Lib.hid (show (c8 D).length = (c8 z2144).length by rw [c8_length, c8_length, hDl]; simp [z2144])
      have HI := Lib.hid (info_f32 D hDl)
      clear hD hEl hDl hlt hk
      go_wp2_with (first | (refine wp_load rfl 45 (.tmp 5) rfl Try.underlying45 rfl ⟨w2.heap.size, 0, none⟩ rfl (c8 D) HI.out (row_all (hS.row 0 rfl)) ?_) | (refine wp_storeAgg rfl 45 (.tmp 4) (.tmp 22) rfl w1.heap.size 0 45 (c8 z2144) (c8 (D)) rfl rfl (hS.row 1 rfl) HI.out HFIT.out (one8 _) ?_))
      intro wz hdr hgz _
      rw [splice_all HEQ.out] at hdr
      have hSz := hS.setRow 1 rfl hdr hgz
      clear hdr hgz hS
      go_wp2
      refine bodyPost_ret (v := .agg (c8 (D)).toArray) (results_cell_row rfl _ _ w1.heap.size _ _ _ _ rfl (hSz.row 1 rfl) Try.underlying45 rfl HI.out) rfl ⟨(by rw [HRES.out]), hSz.grown⟩

set_option maxRecDepth 100000 in
set_option maxHeartbeats 4000000 in
theorem rpublic_any (seed : List UInt8) (key : Nat) (w : World) (hs : seed.length = 32) (hk : key < 4294967296) :
    Calls Try.prog 30 #[.agg (c8 seed).toArray, .int .u32 (key : Int)] w fun e w' => e = .returned (.agg (c8 (publicL seed key)).toArray) ∧ w.grownBy w' none := by
  have c1 := fun W => rends_any seed key W hs hk
  have HSD := Lib.hid (info_a32 seed hs)
  have hEl := endsL_length seed key
  obtain ⟨E, hE⟩ : ∃ E, E = endsL seed key := ⟨_, rfl⟩
  rw [← hE] at c1 hEl
  have c2 := fun W => rpress_any E W hEl
  obtain ⟨D, hD⟩ : ∃ D, D = pressL E := ⟨_, rfl⟩
  have hDl : D.length = 32 := by rw [hD]; exact sha_length _
  rw [← hD] at c2
  have HRES := Lib.hid (show D = publicL seed key by rw [hD, hE]; rfl)
  have HFIT := Lib.hid (show 0 + (c8 D).length ≤ zd.length by rw [c8_length, hDl]; decide)
  have HEQ := Lib.hid (show (c8 D).length = zd.length by rw [c8_length, hDl]; decide)
  have HI := Lib.hid (info_a32 D hDl)
  clear hE hD hDl hEl hs hk
  go_enter Try.func30, Try.ntmps30
  go_wp2_with (refine wp_box (o := ⟨some 2, _, _, _, _, _⟩) rfl 22 (.tmp 0) rfl (c8 seed) rfl ?_)
  intro w1 hr hg hz
  clear hz
  have hS1 := ((Own.start w)).new hr hg
  clear hr hg
  go_wp2_with (refine wp_alloc (o := ⟨some 4, _, _, _, _, _⟩) rfl 22 rfl _ alloc_d32 ?_)
  intro w2 hr hg hz
  clear hz
  have hS2 := hS1.new hr hg
  clear hr hg
  clear hS1
  go_wp2_with (first | (refine wp_load rfl 22 (.tmp 2) rfl Try.underlying22 rfl ⟨w.heap.size, 0, none⟩ rfl (c8 seed) HSD.out (row_all (hS2.row 1 rfl)) ?_))
  refine (c1 _).mono ?_
  rintro e w3 ⟨rfl, hg⟩
  have hS3 := hS2.call hg
  clear hg hS2
  go_wp2_with fail
  refine (c2 _).mono ?_
  rintro e w4 ⟨rfl, hg⟩
  have hS4 := hS3.call hg
  clear hg hS3
  go_wp2_with (refine wp_storeAgg rfl 22 (.tmp 4) (.tmp 8) rfl w1.heap.size 0 22 zd (c8 (D)) rfl rfl (hS4.row 0 rfl) (by simpa using HI.out) HFIT.out (one8 _) ?_)
  intro wz hdr hgz _
  rw [splice_all HEQ.out] at hdr
  have hSz := hS4.setRow 0 rfl hdr hgz
  clear hdr hgz hS4
  go_wp2
  refine bodyPost_ret (v := .agg (c8 (D)).toArray) (results_cell_row rfl _ _ w1.heap.size _ _ _ _ rfl (hSz.row 0 rfl) Try.underlying22 rfl (by simpa using HI.out)) rfl ⟨(by rw [HRES.out]), hSz.grown⟩
end Go.Proofs.Ytfaekebglijebaa
