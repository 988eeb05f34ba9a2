/- The contracts of the document's Secret, Bytes and Step. -/
import Derived.Test.YtfaekebglijebaaSteps
namespace Go.Proofs.Ytfaekebglijebaa
open Go.RowKit
set_option linter.unusedVariables false

set_option maxRecDepth 100000 in
set_option maxHeartbeats 2000000 in
theorem rsecret_any (seed : List UInt8) (key : Nat) (c : UInt8) (w : World) (hs : seed.length = 32) (hk : key < 4294967296) :
    Calls Try.prog 16 #[.agg (c8 seed).toArray, .int .u32 (key : Int), .int .u8 (n8 c)] w fun e w' => e = .returned (.agg (c8 (secretL seed key c)).toArray) ∧ w.grownBy w' none := by
  obtain ⟨k0, k1⟩ := secret_key hk
  have b1 := n8_lo c
  have b2 := n8_hi c
  have HL := Lib.hid hs
  have HK := Lib.hid hk
  clear hs hk
  go_enter Try.func16, Try.ntmps16
  go_wp2_with (refine wp_box (o := ⟨some 3, _, _, _, _, _⟩) rfl 22 (.tmp 0) rfl (c8 seed) rfl ?_)
  intro w1 hr hg hz
  clear hz
  have hS1 := ((Own.start w)).new hr hg
  clear hr hg
  go_wp2_with (refine wp_alloc (o := ⟨some 6, _, _, _, _, _⟩) rfl 22 rfl _ alloc_d32 ?_)
  intro w2 hr hg hz
  clear hz
  have hS2 := hS1.new hr hg
  clear hr hg
  have hB := hS2.built 5 [4] (by simp)
  clear hS1 hS2
  go_wp2
  go_loopw [7, 8] (fun sv iv wr => ∃ k : Nat, k ≤ 32 ∧ iv = .int .i64 (k : Int) ∧ Own w wr [bytesE w.heap.size 5 sv (4 :: seed.take k), rowE w1.heap.size 22 zd, rowE w.heap.size 22 (c8 seed)]) (fun _ iv _ => 32 - (intOf iv).toNat)
  case atStart => exact ⟨0, by omega, rfl, hB⟩
  case round =>
    clear hB
    obtain ⟨k, hk, rfl, hS⟩ := hrel
    by_cases hlt : k < 32
    · have c0 := (hS.row 2 rfl).cell k
      obtain ⟨y, hy⟩ : ∃ y, y = seed.getD k 0 := ⟨_, rfl⟩
      rw [c8_get _ k (by rw [HL.out]; exact hlt), ← hy] at c0
      have HT := Lib.hid (show 4 :: seed.take (k + 1) = (4 :: seed.take k) ++ [y] by rw [take_snoc8 seed k (by rw [HL.out]; exact hlt), ← hy]; rfl)
      have HTL := Lib.hid (show (4 :: seed.take k).length + [y].length ≤ 140737488355328 by simp [HL.out]; omega)
      clear hy
      have q1 : (k : Int) < 32 := by omega
      have hB := hS.built 5 [y] (by simp)
      clear hS
      go_wp2_with (refine wp_appB rfl (.tmp 14) (.tmp 18) 63 rfl 5 Try.underlying63 info_u8 (4 :: seed.take k) (4 :: seed.take (k + 1)) rfl (hB.bytes 1 rfl) _ 1 1 ([y]) rfl (src_own (hB.bytes 0 rfl)) rfl HT.out HTL.out hB.size ?_)
      intro v' w5 ho hg hv
      have hS1 := hB.appendB 1 rfl ho hg (by first | exact hv | simpa using hv)
      clear ho hg hv hB
      have hS2 := hS1.tail
      clear hS1 c0
      go_wp2
      go_roundw
      case rel => exact ⟨k + 1, by omega, rfl, hS2⟩
      case measure => simp [intOf] <;> omega
    · obtain rfl : k = 32 := by omega
      rw [List.take_of_length_le (by rw [HL.out]; omega)] at hS
      clear hlt
      go_wp2_with fail
      refine (rput_b key _ _ (by simp) (by have := HK.out; omega)).mono ?_
      rintro e w4 ⟨A4, p4, rfl, ho, hg⟩
      have hS4 := hS.madeB ho hg
      clear hg hS
      clear ho
      go_wp2_with (refine wp_appB rfl (.tmp 20) (.tmp 23) 63 rfl 5 Try.underlying63 info_u8 (4 :: seed) (4 :: (seed ++ beBytes key 4)) rfl (hS4.bytes 1 rfl) _ 4 p4 (beBytes key 4) rfl (src_own (hS4.bytes 0 rfl)) (beBytes_length _ _) (by simp) (by simp [HL.out, beBytes_length]) hS4.size ?_)
      intro v' w5 ho hg hv
      have hS5 := hS4.appendB 1 rfl ho hg (by first | exact hv | simpa using hv)
      clear ho hg hv hS4
      have hB := hS5.built 5 [c] (by simp)
      clear hS5
      go_wp2_with (refine wp_appB rfl (.tmp 25) (.tmp 27) 63 rfl 5 Try.underlying63 info_u8 (4 :: (seed ++ beBytes key 4)) (4 :: (seed ++ (beBytes key 4 ++ [c]))) rfl (hB.bytes 2 rfl) _ 1 1 ([c]) rfl (src_own (hB.bytes 0 rfl)) rfl (by simp) (by simp [HL.out, beBytes_length]) hB.size ?_)
      intro v' w6 ho hg hv
      have hS6 := hB.appendB 2 rfl ho hg (by first | exact hv | simpa using hv)
      clear ho hg hv hB
      obtain ⟨P, hP⟩ : ∃ P, P = 4 :: (seed ++ (beBytes key 4 ++ [c])) := ⟨_, rfl⟩
      have hlP : P.length = 38 := by rw [hP]; simp [HL.out, beBytes_length]
      rw [← hP] at hS6
      have HP := Lib.hid hP
      have HLP := Lib.hid hlP
      clear hP hlP
      obtain ⟨A, cp, rfl, hbp, hc1, hc2⟩ := own_open (hS6.bytes 2 rfl)
      have HBP := Lib.hid hbp
      clear hbp
      go_wp2_with fail
      refine (rsum_any cp A P _ HBP.out (by rw [HLP.out]; omega)).mono ?_
      rintro e w7 ⟨rfl, hg⟩
      have hS7 := hS6.call hg
      clear hg hS6
      obtain ⟨D, hD⟩ : ∃ D, D = sha P := ⟨_, rfl⟩
      rw [← hD]
      have hl := sha_length P
      rw [← hD] at hl
      have HFIT := Lib.hid (show 0 + (c8 D).length ≤ zd.length by rw [c8_length, hl]; decide)
      have HEQ := Lib.hid (show (c8 D).length = zd.length by rw [c8_length, hl]; decide)
      have HI := Lib.hid (info_a32 D hl)
      have HRES := Lib.hid (show D = secretL seed key c by rw [hD, HP.out]; rfl)
      clear hD hl
      go_wp2_with (refine wp_storeAgg rfl 22 (.tmp 6) (.tmp 29) rfl w1.heap.size 0 22 zd (c8 (D)) rfl rfl (hS7.row 3 rfl) (by simpa using HI.out) HFIT.out (one8 _) ?_)
      intro wz hdr hgz _
      rw [splice_all HEQ.out] at hdr
      have hSz := hS7.setRow 3 rfl hdr hgz
      clear hdr hgz hS7
      go_wp2
      refine bodyPost_ret (v := .agg (c8 (D)).toArray) (results_cell_row rfl _ _ w1.heap.size _ _ _ _ rfl (hSz.row 3 rfl) Try.underlying22 rfl (by simpa using HI.out)) rfl ⟨(by rw [HRES.out]), hSz.grown⟩

set_option maxRecDepth 100000 in
set_option maxHeartbeats 2000000 in
theorem rbytes_any (key : Nat) (c s : UInt8) (x : List UInt8) (w : World) (hx : x.length = 32) (hk : key < 4294967296) :
    Calls Try.prog 35 #[.int .u32 (key : Int), .int .u8 (n8 c), .int .u8 (n8 s), .agg (c8 x).toArray] w fun e w' => ∃ v, e = .returned v ∧ OwnsB w' w.heap.size 5 v (stepB key c s x) ∧ w.grownBy w' none := by
  obtain ⟨k0, k1⟩ := secret_key hk
  have b1 := n8_lo c
  have b2 := n8_hi c
  have b3 := n8_lo s
  have b4 := n8_hi s
  have HL := Lib.hid hx
  have HK := Lib.hid hk
  clear hx hk
  go_enter Try.func35, Try.ntmps35
  go_wp2_with (refine wp_box (o := ⟨some 7, _, _, _, _, _⟩) rfl 22 (.tmp 3) rfl (c8 x) rfl ?_)
  intro w1 hr hg hz
  clear hz
  have hS1 := ((Own.start w)).new hr hg
  clear hr hg
  have hB := hS1.built 5 [2] (by simp)
  clear hS1
  go_wp2_with fail
  refine (rput_b key _ _ (by simp) (by have := HK.out; omega)).mono ?_
  rintro e w4 ⟨A4, p4, rfl, ho, hg⟩
  have hS4 := hB.madeB ho hg
  clear hg hB
  clear ho
  go_wp2_with (refine wp_appB rfl (.tmp 11) (.tmp 14) 63 rfl 5 Try.underlying63 info_u8 ([2]) (2 :: beBytes key 4) rfl (hS4.bytes 1 rfl) _ 4 p4 (beBytes key 4) rfl (src_own (hS4.bytes 0 rfl)) (beBytes_length _ _) (by simp) (by simp [beBytes_length]) hS4.size ?_)
  intro v' w5 ho hg hv
  have hS5 := hS4.appendB 1 rfl ho hg (by first | exact hv | simpa using hv)
  clear ho hg hv hS4
  have hB := hS5.built 5 [c] (by simp)
  clear hS5
  go_wp2_with (refine wp_appB rfl (.tmp 16) (.tmp 18) 63 rfl 5 Try.underlying63 info_u8 (2 :: beBytes key 4) (2 :: (beBytes key 4 ++ [c])) rfl (hB.bytes 2 rfl) _ 1 1 ([c]) rfl (src_own (hB.bytes 0 rfl)) rfl (by simp) (by simp [beBytes_length]) hB.size ?_)
  intro v' w6 ho hg hv
  have hS6 := hB.appendB 2 rfl ho hg (by first | exact hv | simpa using hv)
  clear ho hg hv hB
  have hB := hS6.built 5 [s] (by simp)
  clear hS6
  go_wp2_with (refine wp_appB rfl (.tmp 20) (.tmp 22) 63 rfl 5 Try.underlying63 info_u8 (2 :: (beBytes key 4 ++ [c])) (2 :: (beBytes key 4 ++ [c, s])) rfl (hB.bytes 3 rfl) _ 1 1 ([s]) rfl (src_own (hB.bytes 0 rfl)) rfl (by simp) (by simp [beBytes_length]) hB.size ?_)
  intro v' w7 ho hg hv
  have hS7 := hB.appendB 3 rfl ho hg (by first | exact hv | simpa using hv)
  clear ho hg hv hB
  have hS8 := hS7.tail.tail.tail
  clear hS7
  go_wp2
  go_loopw [9, 10] (fun sv iv wr => ∃ k : Nat, k ≤ 32 ∧ iv = .int .i64 (k : Int) ∧ Own w wr [bytesE w.heap.size 5 sv (stepB key c s (x.take k)), rowE w.heap.size 22 (c8 x)]) (fun _ iv _ => 32 - (intOf iv).toNat)
  case atStart => exact ⟨0, by omega, rfl, by simpa [stepB] using hS8⟩
  case round =>
    clear hS8
    obtain ⟨k, hk, rfl, hS⟩ := hrel
    by_cases hlt : k < 32
    · have c0 := (hS.row 1 rfl).cell k
      obtain ⟨y, hy⟩ : ∃ y, y = x.getD k 0 := ⟨_, rfl⟩
      rw [c8_get _ k (by rw [HL.out]; exact hlt), ← hy] at c0
      have HT := Lib.hid (show stepB key c s (x.take (k + 1)) = stepB key c s (x.take k) ++ [y] by rw [take_snoc8 x k (by rw [HL.out]; exact hlt), ← hy]; simp [stepB])
      have HTL := Lib.hid (show (stepB key c s (x.take k)).length + [y].length ≤ 140737488355328 by simp [stepB, HL.out, beBytes_length]; omega)
      clear hy
      have q1 : (k : Int) < 32 := by omega
      have hB := hS.built 5 [y] (by simp)
      clear hS
      go_wp2_with (refine wp_appB rfl (.tmp 28) (.tmp 32) 63 rfl 5 Try.underlying63 info_u8 (stepB key c s (x.take k)) (stepB key c s (x.take (k + 1))) rfl (hB.bytes 1 rfl) _ 1 1 ([y]) rfl (src_own (hB.bytes 0 rfl)) rfl HT.out HTL.out hB.size ?_)
      intro v' w5 ho hg hv
      have hS1 := hB.appendB 1 rfl ho hg (by first | exact hv | simpa using hv)
      clear ho hg hv hB
      have hS2 := hS1.tail
      clear hS1 c0
      go_wp2
      go_roundw
      case rel => exact ⟨k + 1, by omega, rfl, hS2⟩
      case measure => simp [intOf] <;> omega
    · obtain rfl : k = 32 := by omega
      rw [List.take_of_length_le (by rw [HL.out]; omega)] at hS
      clear hlt
      go_wp2
      go_ret
      exact ⟨_, rfl, hS.bytes 0 rfl, hS.grown⟩

set_option maxRecDepth 100000 in
set_option maxHeartbeats 1000000 in
theorem rstep_any (key : Nat) (c s : UInt8) (x : List UInt8) (w : World) (hx : x.length = 32) (hk : key < 4294967296) :
    Calls Try.prog 18 #[.int .u32 (key : Int), .int .u8 (n8 c), .int .u8 (n8 s), .agg (c8 x).toArray] w fun e w' => e = .returned (.agg (c8 (stepL key c s x)).toArray) ∧ w.grownBy w' none := by
  have hby := fun W => rbytes_any key c s x W hx hk
  have HLS := Lib.hid (show (stepB key c s x).length = 39 by simp [stepB, hx, beBytes_length])
  have HI0 := Lib.hid (info_a32 x hx)
  clear hx hk
  go_enter Try.func18, Try.ntmps18
  go_wp2_with (refine wp_box (o := ⟨some 7, _, _, _, _, _⟩) rfl 22 (.tmp 3) rfl (c8 x) rfl ?_)
  intro w1 hr hg hz
  clear hz
  have hS1 := ((Own.start w)).new hr hg
  clear hr hg
  go_wp2_with (refine wp_alloc (o := ⟨some 8, _, _, _, _, _⟩) rfl 22 rfl _ alloc_d32 ?_)
  intro w2 hr hg hz
  clear hz
  have hS2 := hS1.new hr hg
  clear hr hg
  clear hS1
  go_wp2_with (first | (refine wp_load rfl 22 (.tmp 7) rfl Try.underlying22 rfl ⟨w.heap.size, 0, none⟩ rfl (c8 x) HI0.out (row_all (hS2.row 1 rfl)) ?_))
  refine (hby _).mono ?_
  rintro e w3 ⟨v3, rfl, ho, hg⟩
  have hS3 := hS2.madeB ho hg
  clear hg hS2
  clear ho
  obtain ⟨A, cp, rfl, hbp, hc1, hc2⟩ := own_open (hS3.bytes 0 rfl)
  have HBP := Lib.hid hbp
  clear hbp hby
  go_wp2_with fail
  refine (rsum_any cp A _ _ HBP.out (by rw [HLS.out]; omega)).mono ?_
  rintro e w4 ⟨rfl, hg⟩
  have hS4 := hS3.call hg
  clear hg hS3
  obtain ⟨D, hD⟩ : ∃ D, D = sha (stepB key c s x) := ⟨_, rfl⟩
  rw [← hD]
  have hl := sha_length (stepB key c s x)
  rw [← hD] at hl
  have HFIT := Lib.hid (show 0 + (c8 D).length ≤ zd.length by rw [c8_length, hl]; decide)
  have HEQ := Lib.hid (show (c8 D).length = zd.length by rw [c8_length, hl]; decide)
  have HI := Lib.hid (info_a32 D hl)
  have HRES := Lib.hid (show D = stepL key c s x by rw [hD]; rfl)
  clear hD hl
  go_wp2_with (refine wp_storeAgg rfl 22 (.tmp 8) (.tmp 14) rfl w1.heap.size 0 22 zd (c8 (D)) rfl rfl (hS4.row 1 rfl) (by simpa using HI.out) HFIT.out (one8 _) ?_)
  intro wz hdr hgz _
  rw [splice_all HEQ.out] at hdr
  have hSz := hS4.setRow 1 rfl hdr hgz
  clear hdr hgz hS4
  go_wp2
  refine bodyPost_ret (v := .agg (c8 (D)).toArray) (results_cell_row rfl _ _ w1.heap.size _ _ _ _ rfl (hSz.row 1 rfl) Try.underlying22 rfl (by simpa using HI.out)) rfl ⟨(by rw [HRES.out]), hSz.grown⟩
end Go.Proofs.Ytfaekebglijebaa
