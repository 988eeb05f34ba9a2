/- The contract of the law's from. -/
import Derived.Test.YtfaekebglijebaaTo4
namespace Go.Proofs.Ytfaekebglijebaa
open Go.RowKit
set_option linter.unusedVariables false

set_option maxRecDepth 100000 in
set_option maxHeartbeats 4000000 in
theorem from_any (l : List UInt8) (w : World) (hl : l.length = 2144) :
    Calls Try.prog 29 #[.agg (c8 l).toArray] w fun e w' => e = .returned (.agg (c8 l).toArray) ∧ w.grownBy w' none := by
  have HL := Lib.hid hl
  have HIA := Lib.hid (info_f32 l hl)
  have HID := Lib.hid (info_fd l hl)
  have hch : ∀ c, c < 67 → (chunk32 l c).length = 32 := fun c hc => chunk32_length l c 67 hl hc
  have HC := Lib.hid hch
  clear hl hch
  go_enter Try.func29, Try.ntmps29
  go_wp2_with (refine wp_box (o := ⟨some 1, _, _, _, _, _⟩) rfl 47 (.tmp 0) rfl (c8 l) rfl ?_)
  intro w1 hr hg hz
  clear hz
  have hS1 := (Own.start w).new hr hg
  clear hr hg
  go_wp2_with (refine wp_alloc (o := ⟨some 2, _, _, _, _, _⟩) rfl 45 rfl _ alloc_f32 ?_)
  intro w2 hr hg hz
  clear hz
  have hS2 := hS1.new hr hg
  clear hr hg hS1
  go_wp2_with (refine wp_alloc (o := ⟨some 3, _, _, _, _, _⟩) rfl 45 rfl _ alloc_f32 ?_)
  intro w3 hr hg hz
  clear hz
  have hS3 := hS2.new hr hg
  clear hr hg hS2
  go_wp2_with (refine wp_load rfl 47 (.tmp 1) rfl Try.underlying47 rfl ⟨w.heap.size, 0, none⟩ rfl (c8 l) HID.out (row_all (hS3.row 2 rfl)) ?_)
  go_wp2
  go_loopw [7] (fun iv wr => ∃ k : Nat, k ≤ 67 ∧ iv = .int .i64 (k : Int) ∧ Own w wr [rowE w2.heap.size 45 (c8 (fl (chunk32 l) k)), rowE w1.heap.size 45 (c8 z2144), rowE w.heap.size 47 (c8 l)]) (fun iv _ => 67 - (intOf iv).toNat)
  case atStart => exact ⟨0, by omega, rfl, by rw [fl_zero]; exact hS3⟩
  case round =>
    clear hS3
    obtain ⟨k, hk, rfl, hS⟩ := hrel
    by_cases hlt : k < 67
    · have q1 : (k : Int) < 67 := by omega
      have hix := fun W => idx_fd W l k hlt
      have hfl := fl_length (chunk32 l) k (fun c hc => HC.out c (by omega)) hk
      have hst := fl_step (chunk32 l) k (fun c hc => HC.out c (by omega)) hlt (HC.out k hlt)
      have hXl := HC.out k hlt
      obtain ⟨X, hX⟩ : ∃ X, X = chunk32 l k := ⟨_, rfl⟩
      rw [← hX] at hix hst hXl
      have HST := Lib.hid hst
      have HFL := Lib.hid (show k * 32 + (c8 X).length ≤ (c8 (fl (chunk32 l) k)).length by rw [c8_length, c8_length, hfl, hXl]; omega)
      have HF0 := Lib.hid (show 0 + (c8 X).length ≤ zd.length by rw [c8_length, hXl]; decide)
      have HE0 := Lib.hid (show (c8 X).length = zd.length by rw [c8_length, hXl]; decide)
      have HXD := Lib.hid (info_dg X hXl)
      have HXA := Lib.hid (info_a32 X hXl)
      have HK := Lib.hid (show k < 67 from hlt)
      clear hX hst hXl hfl hlt hk
      go_wp2_with (refine wp_alloc (o := ⟨some 5, _, _, _, _, _⟩) rfl 24 rfl _ alloc_d ?_)
      intro w5 hr hg hz
      clear hz
      have hS5 := hS.new hr hg
      clear hr hg hS hix
      go_wp2_with (refine wp_storeAgg rfl 24 (.tmp 5) (.tmp 10) rfl wr.heap.size 0 24 zd (c8 X) rfl rfl (hS5.row 0 rfl) HXD.out HF0.out (one8 _) ?_)
      intro w6 hr hg _
      rw [splice_all HE0.out] at hr
      have hS6 := hS5.setRow 0 rfl hr hg
      clear hS5 hr hg
      go_wp2_with (first | (refine wp_load rfl 24 (.tmp 5) rfl Try.underlying24 rfl ⟨wr.heap.size, 0, none⟩ rfl (c8 X) HXD.out (row_all (hS6.row 0 rfl)) ?_) | (refine wp_storeAgg rfl 22 (.tmp 13) (.tmp 12) rfl w2.heap.size (k * 32) 45 (c8 (fl (chunk32 l) k)) (c8 X) rfl rfl (hS6.row 1 rfl) HXA.out HFL.out (one8 _) ?_))
      intro w7 hr hg _
      rw [HST.out] at hr
      have hS7 := (hS6.setRow 1 rfl hr hg).tail
      clear hS6 hr hg
      go_wp2
      go_roundw
      case rel => exact ⟨k + 1, by have := HK.out; omega, by go_num, hS7⟩
      case measure => simp [intOf] <;> omega
    · obtain rfl : k = 67 := by omega
      rw [fl_full, chunks_flatN l HL.out] at hS
      have HFIT := Lib.hid (show 0 + (c8 l).length ≤ (c8 z2144).length by rw [c8_length, c8_length, HL.out]; simp [z2144])
      have HEQ := Lib.hid (show (c8 l).length = (c8 z2144).length by rw [c8_length, c8_length, HL.out]; simp [z2144])
      clear hlt hk
      go_wp2_with (first | (refine wp_load rfl 45 (.tmp 3) rfl Try.underlying45 rfl ⟨w2.heap.size, 0, none⟩ rfl (c8 l) HIA.out (row_all (hS.row 0 rfl)) ?_) | (refine wp_storeAgg rfl 45 (.tmp 2) (.tmp 15) rfl w1.heap.size 0 45 (c8 z2144) (c8 l) rfl rfl (hS.row 1 rfl) HIA.out HFIT.out (one8 _) ?_))
      intro wz hdr hgz _
      rw [splice_all HEQ.out] at hdr
      have hSz := hS.setRow 1 rfl hdr hgz
      clear hdr hgz hS
      go_wp2
      refine bodyPost_ret (v := .agg (c8 l).toArray) (results_cell_row rfl _ _ w1.heap.size _ _ _ _ rfl (hSz.row 1 rfl) Try.underlying45 rfl HIA.out) rfl ⟨rfl, hSz.grown⟩
end Go.Proofs.Ytfaekebglijebaa
