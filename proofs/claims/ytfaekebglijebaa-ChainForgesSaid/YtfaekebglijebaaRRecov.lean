/- The contract of the document's Recover. -/
import Derived.Test.YtfaekebglijebaaRTops
namespace Go.Proofs.Ytfaekebglijebaa
open Go.RowKit
set_option linter.unusedVariables false

set_option maxRecDepth 100000 in
set_option maxHeartbeats 4000000 in
theorem rrecover_any (key : Nat) (m l : List UInt8) (w : World) (hm : m.length = 32) (hl : l.length = 2144) (hk : key < 4294967296) :
    Calls Try.prog 21 #[.int .u32 (key : Int), .agg (c8 m).toArray, .agg (c8 l).toArray] w fun e w' => e = .returned (.agg (c8 (recoverL key m l)).toArray) ∧ w.grownBy w' none := by
  have c1 := fun W => rtops_any key m l W hm hl hk
  have HMD := Lib.hid (info_a32 m hm)
  have HLD := Lib.hid (info_f32 l hl)
  have hEl := topsL_length key m l hl
  obtain ⟨E, hE⟩ : ∃ E, E = topsL key m l := ⟨_, rfl⟩
  rw [← hE] at c1 hEl
  have c2 := fun W => rpress_any E W hEl
  obtain ⟨D, hD⟩ : ∃ D, D = pressL E := ⟨_, rfl⟩
  have hDl : D.length = 32 := by rw [hD]; exact sha_length _
  rw [← hD] at c2
  have HRES := Lib.hid (show D = recoverL key m l by rw [hD, hE]; rfl)
  have HFIT := Lib.hid (show 0 + (c8 D).length ≤ zd.length by rw [c8_length, hDl]; decide)
  have HEQ := Lib.hid (show (c8 D).length = zd.length by rw [c8_length, hDl]; decide)
  have HI := Lib.hid (info_a32 D hDl)
  clear hE hD hDl hEl hm hl hk
  go_enter Try.func21, Try.ntmps21
  go_wp2_with (refine wp_box (o := ⟨some 4, _, _, _, _, _⟩) rfl 22 (.tmp 1) rfl (c8 m) rfl ?_)
  intro w1 hr hg hz
  clear hz
  have hS1 := ((Own.start w)).new hr hg
  clear hr hg
  go_wp2_with (refine wp_box (o := ⟨some 5, _, _, _, _, _⟩) rfl 45 (.tmp 2) rfl (c8 l) rfl ?_)
  intro w2 hr hg hz
  clear hz
  have hS2 := (hS1).new hr hg
  clear hr hg
  go_wp2_with (refine wp_alloc (o := ⟨some 6, _, _, _, _, _⟩) rfl 22 rfl _ alloc_d32 ?_)
  intro w3 hr hg hz
  clear hz
  have hS3 := hS2.new hr hg
  clear hr hg
  clear hS1 hS2
  go_wp2_with (first | (refine wp_load rfl 22 (.tmp 4) rfl Try.underlying22 rfl ⟨w.heap.size, 0, none⟩ rfl (c8 m) HMD.out (row_all (hS3.row 2 rfl)) ?_) | (refine wp_load rfl 45 (.tmp 5) rfl Try.underlying45 rfl ⟨w1.heap.size, 0, none⟩ rfl (c8 l) HLD.out (row_all (hS3.row 1 rfl)) ?_))
  refine (c1 _).mono ?_
  rintro e w4 ⟨rfl, hg⟩
  have hS4 := hS3.call hg
  clear hg hS3
  go_wp2_with fail
  refine (c2 _).mono ?_
  rintro e w5 ⟨rfl, hg⟩
  have hS5 := hS4.call hg
  clear hg hS4
  go_wp2_with (refine wp_storeAgg rfl 22 (.tmp 6) (.tmp 11) rfl w2.heap.size 0 22 zd (c8 (D)) rfl rfl (hS5.row 0 rfl) (by simpa using HI.out) HFIT.out (one8 _) ?_)
  intro wz hdr hgz _
  rw [splice_all HEQ.out] at hdr
  have hSz := hS5.setRow 0 rfl hdr hgz
  clear hdr hgz hS5
  go_wp2
  refine bodyPost_ret (v := .agg (c8 (D)).toArray) (results_cell_row rfl _ _ w2.heap.size _ _ _ _ rfl (hSz.row 0 rfl) Try.underlying22 rfl (by simpa using HI.out)) rfl ⟨(by rw [HRES.out]), hSz.grown⟩
end Go.Proofs.Ytfaekebglijebaa
