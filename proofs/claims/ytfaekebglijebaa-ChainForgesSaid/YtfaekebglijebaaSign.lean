/- The contract of chain.Sign. -/
import Derived.Test.YtfaekebglijebaaPub
import Derived.Test.YtfaekebglijebaaDigits
namespace Go.Proofs.Ytfaekebglijebaa
open Go.RowKit
set_option linter.unusedVariables false

theorem dig_cells' (a : List UInt8) : ∀ i, i < 67 → digN67 a i < 16 ∧ (c8 (digitsL a))[i]? = some (.int .u8 (digN67 a i : Int)) := by
  intro i hi
  refine ⟨digN67_lt a i, ?_⟩
  rw [c8_get _ i (by rw [digitsL_length]; exact hi), digitsL_get a i hi]
  have := n8_d8 a i
  unfold d8 at this
  rw [this]
set_option maxRecDepth 100000 in
set_option maxHeartbeats 4000000 in
theorem sign_any (seed : List UInt8) (key : Nat) (m : List UInt8) (w : World) (hs : seed.length = 32) (hm : m.length = 32) (hk : key < 4294967296) :
    Calls Try.prog 28 #[.agg (c8 seed).toArray, .int .u32 (key : Int), .agg (c8 m).toArray] w fun e w' => e = .returned (.agg (c8 (signL seed key m)).toArray) ∧ w.grownBy w' none := by
  obtain ⟨k0, k1⟩ := secret_key hk
  have HL := Lib.hid hs
  have HKY := Lib.hid hk
  have HSD := Lib.hid (info_dg seed hs)
  have HMD := Lib.hid (info_dg m hm)
  have hdig := fun W => digits_any m W hm
  have hdc := dig_cells' m
  have hdl := digitsL_length m
  obtain ⟨DG, hDG⟩ : ∃ DG, DG = digitsL m := ⟨_, rfl⟩
  rw [← hDG] at hdig hdc hdl
  have HDC := Lib.hid hdc
  have HDLEN := Lib.hid hdl
  clear hs hk hm hdc hdl hDG
  go_enter Try.func28, Try.ntmps28
  go_wp2_with (refine wp_box (o := ⟨some 3, _, _, _, _, _⟩) rfl 24 (.tmp 0) rfl (c8 seed) rfl ?_)
  intro w1 hr hg hz
  clear hz
  have hS1 := ((Own.start w)).new hr hg
  clear hr hg
  go_wp2_with (refine wp_box (o := ⟨some 5, _, _, _, _, _⟩) rfl 24 (.tmp 2) rfl (c8 m) rfl ?_)
  intro w2 hr hg hz
  clear hz
  have hS2 := (hS1).new hr hg
  clear hr hg
  go_wp2_with (refine wp_alloc (o := ⟨some 6, _, _, _, _, _⟩) rfl 47 rfl _ alloc_fd ?_)
  intro w3 hr hg hz
  clear hz
  have hS3 := hS2.new hr hg
  clear hr hg
  go_wp2_with (refine wp_alloc (o := ⟨some 7, _, _, _, _, _⟩) rfl 47 rfl _ alloc_fd ?_)
  intro w4 hr hg hz
  clear hz
  have hS4 := hS3.new hr hg
  clear hr hg
  clear hS1 hS2 hS3
  go_wp2_with (first | (refine wp_load rfl 24 (.tmp 5) rfl Try.underlying24 rfl ⟨w1.heap.size, 0, none⟩ rfl (c8 m) HMD.out (row_all (hS4.row 2 rfl)) ?_))
  refine (hdig _).mono ?_
  rintro e w5 ⟨rfl, hg⟩
  have hS5 := hS4.call hg
  clear hg hS4
  clear hdig
  go_wp2
  go_loopw [12] (fun iv wr => ∃ k : Nat, k ≤ 67 ∧ iv = .int .i64 (k : Int) ∧ Own w wr [rowE w3.heap.size 47 (c8 (fl (sigL seed key m) k)), rowE w2.heap.size 47 (c8 z2144), rowE w1.heap.size 24 (c8 m), rowE w.heap.size 24 (c8 seed)]) (fun iv _ => 67 - (intOf iv).toNat)
  case atStart => exact ⟨0, by omega, rfl, by rw [fl_zero]; exact hS5⟩
  case round =>
    clear hS5
    obtain ⟨k, hk, rfl, hS⟩ := hrel
    by_cases hlt : k < 67
    · have q1 : (k : Int) < 67 := by omega
      have hfl := fl_length (sigL seed key m) k (fun c _ => sigL_length _ _ _ c) hk
      have hst := fl_step (sigL seed key m) k (fun c _ => sigL_length _ _ _ c) hlt (sigL_length _ _ _ k)
      have hsec := fun W => secret_any seed key (u8c k) W HL.out HKY.out
      have hcl := fun W => climb_any key (u8c k) (secretL seed key (u8c k)) 0 (digN67 m k) W (secretL_length _ _ _) HKY.out (by omega) (by have := digN67_lt m k; omega)
      obtain ⟨hd16, hdcell⟩ := HDC.out k hlt
      have hXl := sigL_length seed key m k
      rw [u8c_n8 k (by omega)] at hsec hcl
      obtain ⟨X, hX⟩ : ∃ X, X = sigL seed key m k := ⟨_, rfl⟩
      rw [show climbL key (u8c k) (digN67 m k - 0) 0 (secretL seed key (u8c k)) = X from hX.symm] at hcl
      obtain ⟨d, hd⟩ : ∃ d, d = digN67 m k := ⟨_, rfl⟩
      rw [← hd] at hcl hd16 hdcell
      have d0 : (0 : Int) ≤ (d : Int) := by omega
      have d1 : (d : Int) < 16 := by omega
      have hix : ∀ W, (Instr.index 31 (.agg (c8 DG).toArray) (.int .i64 (k : Int))).run Try.prog W = .ok (.int .u8 (d : Int)) W := fun W => run_index_agg W Try.underlying31 Try.underlying5 rfl (by kernel_rfl) _ k hlt _ hdcell
      rw [← hX] at hst hXl
      obtain ⟨Sx, hSx⟩ : ∃ Sx, Sx = secretL seed key (u8c k) := ⟨_, rfl⟩
      rw [← hSx] at hsec hcl
      have HST := Lib.hid hst
      have HFL := Lib.hid (show k * 32 + (c8 X).length ≤ (c8 (fl (sigL seed key m) k)).length by rw [c8_length, c8_length, hfl, hXl]; omega)
      have HXD := Lib.hid (info_dg X hXl)
      have HK := Lib.hid (show k < 67 from hlt)
      have HCL : Hid (∀ W, Calls Try.prog 10 #[.int .u32 (key : Int), .int .u8 (k : Int), .agg (c8 Sx).toArray, .int .i64 0, .int .i64 (d : Int)] W fun e w' => e = .returned (.tuple #[.agg (c8 X).toArray, .int .i64 0]) ∧ W.grownBy w' none) := Lib.hid hcl
      clear hX hSx hst hXl hfl hlt hk hcl hd hd16 hdcell
      go_wp2_with (first | (refine wp_load rfl 24 (.tmp 3) rfl Try.underlying24 rfl ⟨w.heap.size, 0, none⟩ rfl (c8 seed) HSD.out (row_all (hS.row 3 rfl)) ?_))
      refine (hsec _).mono ?_
      rintro e w5 ⟨rfl, hg⟩
      have hS5 := hS.call hg
      clear hg hS
      clear hsec hix
      go_wp2_with fail
      refine (HCL.out _).mono ?_
      rintro e w6 ⟨rfl, hg⟩
      have hS6 := hS5.call hg
      clear hg hS5
      go_wp2_with (refine wp_storeAgg rfl 24 (.tmp 31) (.tmp 29) rfl w3.heap.size (k * 32) 47 (c8 (fl (sigL seed key m) k)) (c8 X) rfl rfl (hS6.row 0 rfl) HXD.out HFL.out (one8 _) ?_)
      intro w7 hr hg hz
      clear hz
      rw [HST.out] at hr
      have hS7 := hS6.setRow 0 rfl hr hg
      clear hS6 hr hg
      go_wp2
      go_roundw
      case rel => exact ⟨k + 1, by have := HK.out; omega, by go_num, hS7⟩
      case measure => simp [intOf] <;> omega
    · obtain rfl : k = 67 := by omega
      rw [fl_full] at hS
      have hEl := signL_length seed key m
      obtain ⟨D, hD⟩ : ∃ D, D = flatN (sigL seed key m) 67 := ⟨_, rfl⟩
      have hDl : D.length = 2144 := by rw [hD]; exact hEl
      rw [← hD] at hS
      have HRES := Lib.hid (show D = signL seed key m from hD)
      have HFIT := Lib.hid (show 0 + (c8 D).length ≤ (c8 z2144).length by rw [c8_length, c8_length, hDl]; simp [z2144])
      have HEQ := Lib.hid (show (c8 D).length = (c8 z2144).length by rw [c8_length, c8_length, hDl]; simp [z2144])
      have HI := Lib.hid (info_fd D hDl)
      clear hD hEl hDl hlt hk
      go_wp2_with (first | (refine wp_load rfl 47 (.tmp 7) rfl Try.underlying47 rfl ⟨w3.heap.size, 0, none⟩ rfl (c8 D) HI.out (row_all (hS.row 0 rfl)) ?_) | (refine wp_storeAgg rfl 47 (.tmp 6) (.tmp 33) rfl w2.heap.size 0 47 (c8 z2144) (c8 (D)) rfl rfl (hS.row 1 rfl) HI.out HFIT.out (one8 _) ?_))
      intro wz hdr hgz _
      rw [splice_all HEQ.out] at hdr
      have hSz := hS.setRow 1 rfl hdr hgz
      clear hdr hgz hS
      go_wp2
      refine bodyPost_ret (v := .agg (c8 (D)).toArray) (results_cell_row rfl _ _ w2.heap.size _ _ _ _ rfl (hSz.row 1 rfl) Try.underlying47 rfl HI.out) rfl ⟨(by rw [HRES.out]), hSz.grown⟩
end Go.Proofs.Ytfaekebglijebaa
