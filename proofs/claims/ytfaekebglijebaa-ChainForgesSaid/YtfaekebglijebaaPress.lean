/- The contracts of press, the program's and the document's. -/
import Derived.Test.YtfaekebglijebaaToFrom
namespace Go.Proofs.Ytfaekebglijebaa
open Go.RowKit
set_option linter.unusedVariables false

theorem take_chunk (l : List UInt8) (k : Nat) : l.take (32 * (k + 1)) = l.take (32 * k) ++ chunk32 l k := by
  unfold chunk32
  rw [show 32 * (k + 1) = 32 * k + 32 by omega, List.take_add]

set_option maxRecDepth 100000 in
set_option maxHeartbeats 4000000 in
theorem press_any (g : Nat) (l : List UInt8) (w : World) (hr0 : Row w g 47 (c8 l)) (hl : l.length = 2144) :
    Calls Try.prog 36 #[.pointer (some ⟨g, 0, none⟩)] w fun e w' => e = .returned (.agg (c8 (pressL l)).toArray) ∧ w.grownBy w' none := by
  have HL := Lib.hid hl
  have HC := Lib.hid (fun c (hc : c < 67) => chunk32_length l c 67 hl hc)
  have HR := Lib.hid hr0
  clear hl hr0
  go_enter Try.func36, Try.ntmps36
  go_wp2_with (refine wp_alloc (o := ⟨some 2, _, _, _, _, _⟩) rfl 24 rfl _ alloc_d ?_)
  intro w1 hr hg hz
  clear hz
  have hS1 := (Own.start w).new hr hg
  clear hr hg
  go_wp2_with (refine wp_roomB (o := ⟨some 6, _, _, _, _, _⟩) rfl 63 (.const (.int .i64 0)) (.const (.int .i64 2145)) rfl 5 Try.underlying63 info_u8 2145 rfl rfl (by omega) hS1 ?_)
  intro v4 w4 hS4
  clear hS1
  have hB := hS4.built 5 [3] (by simp)
  clear hS4
  go_wp2_with (refine wp_appB rfl (.tmp 6) (.tmp 7) 63 rfl 5 Try.underlying63 info_u8 ([]) ([3]) rfl (hB.bytes 1 rfl) _ 1 1 ([3]) rfl (src_own (hB.bytes 0 rfl)) rfl (by simp) (by simp <;> omega) hB.size ?_)
  intro v' w5 ho hg hv
  have hS5 := hB.appendB 1 rfl ho hg (by first | exact hv | simpa using hv)
  clear ho hg hv hB
  have hS6 := hS5.tail
  clear hS5
  go_wp2
  go_loopw [3, 11] (fun sv iv wr => ∃ k : Nat, k ≤ 67 ∧ iv = .int .i64 (k : Int) ∧ Own w wr [bytesE w.heap.size 5 sv (3 :: l.take (32 * k)), rowE w.heap.size 24 zd]) (fun _ iv _ => 67 - (intOf iv).toNat)
  case atStart => exact ⟨0, by omega, rfl, hS6⟩
  case round =>
    clear hS6
    obtain ⟨k, hk, rfl, hS⟩ := hrel
    by_cases hlt : k < 67
    · have q1 : (k : Int) < 67 := by omega
      have hXl := HC.out k hlt
      have hrow := row_chunk (HR.out.grown hS.grown (by simp)) k
      have htk := take_chunk l k
      obtain ⟨X, hX⟩ : ∃ X, X = chunk32 l k := ⟨_, rfl⟩
      rw [← hX] at hXl hrow htk
      have HTK := Lib.hid (show 3 :: l.take (32 * (k + 1)) = (3 :: l.take (32 * k)) ++ X by rw [htk]; rfl)
      have HTL := Lib.hid (show (3 :: l.take (32 * k)).length + X.length ≤ 140737488355328 by simp [HL.out, hXl]; omega)
      have HROW := Lib.hid hrow
      have HXL := Lib.hid hXl
      have HF0 := Lib.hid (show 0 + (c8 X).length ≤ zd.length by rw [c8_length, hXl]; decide)
      have HE0 := Lib.hid (show (c8 X).length = zd.length by rw [c8_length, hXl]; decide)
      have HXD := Lib.hid (info_dg X hXl)
      have HK := Lib.hid (show k < 67 from hlt)
      clear hX hrow htk hXl hlt hk
      go_wp2_with (first | (refine wp_load rfl 24 (.tmp 14) rfl Try.underlying24 rfl ⟨g, k * 32, none⟩ rfl (c8 X) HXD.out HROW.out ?_) | (refine wp_alloc (o := ⟨some 5, _, _, _, _, _⟩) rfl 24 rfl _ alloc_d ?_))
      intro w7 hr hg hz
      clear hz
      have hS7 := hS.new hr hg
      clear hr hg hS
      go_wp2_with (refine wp_storeAgg rfl 24 (.tmp 5) (.tmp 15) rfl wr.heap.size 0 24 zd (c8 X) rfl rfl (hS7.row 0 rfl) HXD.out HF0.out (one8 _) ?_)
      intro w8 hr hg hz
      clear hz
      rw [splice_all HE0.out] at hr
      have hS8 := hS7.setRow 0 rfl hr hg
      clear hS7 hr hg
      go_wp2_with (refine wp_appB rfl (.tmp 16) (.tmp 17) 63 rfl 5 Try.underlying63 info_u8 (3 :: l.take (32 * k)) (3 :: l.take (32 * (k + 1))) rfl (hS8.bytes 1 rfl) _ 32 32 (X) rfl (src_row (hS8.row 0 rfl)) HXL.out HTK.out HTL.out hS8.size ?_)
      intro v' w9 ho hg hv
      have hS9 := hS8.appendB 1 rfl ho hg (by first | exact hv | simpa using hv)
      clear ho hg hv hS8
      have hSA := hS9.tail
      clear hS9
      go_wp2
      go_roundw
      case rel => exact ⟨k + 1, by have := HK.out; omega, by go_num, hSA⟩
      case measure => simp [intOf] <;> omega
    · obtain rfl : k = 67 := by omega
      rw [List.take_of_length_le (by rw [HL.out]; omega)] at hS
      clear hlt hk
      obtain ⟨P, hP⟩ : ∃ P, P = 3 :: l := ⟨_, rfl⟩
      have hlP : P.length = 2145 := by rw [hP]; simp [HL.out]
      rw [← hP] at hS
      have HP := Lib.hid hP
      have HLP := Lib.hid hlP
      clear hP hlP
      obtain ⟨A, cp, rfl, hbp, hc1, hc2⟩ := own_open (hS.bytes 0 rfl)
      have HBP := Lib.hid hbp
      clear hbp
      go_wp2_with fail
      refine (dsum_any cp A P _ HBP.out hc1 hc2 (by rw [HLP.out]; omega)).mono ?_
      rintro e w7 ⟨rfl, hg⟩
      have hS7 := hS.call hg
      clear hg hS
      obtain ⟨D, hD⟩ : ∃ D, D = sha P := ⟨_, rfl⟩
      rw [← hD]
      have hl := sha_length P
      rw [← hD] at hl
      have HFIT := Lib.hid (show 0 + (c8 D).length ≤ zd.length by rw [c8_length, hl]; decide)
      have HEQ := Lib.hid (show (c8 D).length = zd.length by rw [c8_length, hl]; decide)
      have HI := Lib.hid (info_dg D hl)
      have HRES := Lib.hid (show D = pressL l by rw [hD, HP.out]; rfl)
      clear hD hl
      go_wp2_with (refine wp_storeAgg rfl 24 (.tmp 2) (.tmp 21) rfl w.heap.size 0 24 zd (c8 (D)) rfl rfl (hS7.row 1 rfl) (by simpa using HI.out) HFIT.out (one8 _) ?_)
      intro wz hdr hgz _
      rw [splice_all HEQ.out] at hdr
      have hSz := hS7.setRow 1 rfl hdr hgz
      clear hdr hgz hS7
      go_wp2
      refine bodyPost_ret (v := .agg (c8 (D)).toArray) (results_cell_row rfl _ _ w.heap.size _ _ _ _ rfl (hSz.row 1 rfl) Try.underlying24 rfl (by simpa using HI.out)) rfl ⟨(by rw [HRES.out]), hSz.grown⟩

set_option maxRecDepth 100000 in
set_option maxHeartbeats 4000000 in
theorem rpress_any (l : List UInt8) (w : World) (hl : l.length = 2144) :
    Calls Try.prog 26 #[.agg (c8 l).toArray] w fun e w' => e = .returned (.agg (c8 (pressL l)).toArray) ∧ w.grownBy w' none := by
  have HL := Lib.hid hl
  clear hl
  go_enter Try.func26, Try.ntmps26
  go_wp2_with (refine wp_box (o := ⟨some 1, _, _, _, _, _⟩) rfl 45 (.tmp 0) rfl (c8 l) rfl ?_)
  intro w1 hr hg hz
  clear hz
  have hS1 := ((Own.start w)).new hr hg
  clear hr hg
  go_wp2_with (refine wp_alloc (o := ⟨some 2, _, _, _, _, _⟩) rfl 22 rfl _ alloc_d32 ?_)
  intro w2 hr hg hz
  clear hz
  have hS2 := hS1.new hr hg
  clear hr hg
  have hB := hS2.built 5 [3] (by simp)
  clear hS1 hS2
  go_wp2
  go_loopw [3, 4] (fun sv iv wr => ∃ k : Nat, k ≤ 67 ∧ iv = .int .i64 (k : Int) ∧ Own w wr [bytesE w.heap.size 5 sv (3 :: l.take (32 * k)), rowE w1.heap.size 22 zd, rowE w.heap.size 45 (c8 l)]) (fun _ iv _ => 67 - (intOf iv).toNat)
  case atStart => exact ⟨0, by omega, rfl, hB⟩
  case round =>
    clear hB
    obtain ⟨k, hk, rfl, hS⟩ := hrel
    by_cases hlt : k < 67
    · have q1 : (k : Int) < 67 := by omega
      have HK := Lib.hid (show k < 67 from hlt)
      clear hlt hk
      go_wp2
      go_loopw [3, 5] (fun sv jv wr => ∃ j : Nat, j ≤ 32 ∧ jv = .int .i64 (j : Int) ∧ Own w wr [bytesE w.heap.size 5 sv (3 :: l.take (32 * k + j)), rowE w1.heap.size 22 zd, rowE w.heap.size 45 (c8 l)]) (fun _ jv _ => 32 - (intOf jv).toNat)
      case atStart => exact ⟨0, by omega, rfl, hS⟩
      case round =>
        clear hS
        obtain ⟨j, hj, rfl, hS⟩ := hrel
        by_cases hjt : j < 32
        · have q2 : (j : Int) < 32 := by omega
          have hlen : k * 32 + j < l.length := by have := HK.out; rw [HL.out]; omega
          have c0 := ((hS.row 2 rfl).cell (k * 32 + j)).trans (c8_get l (k * 32 + j) hlen)
          obtain ⟨y, hy⟩ : ∃ y, y = l.getD (k * 32 + j) 0 := ⟨_, rfl⟩
          rw [← hy] at c0
          have HTK := Lib.hid (show 3 :: l.take (32 * k + (j + 1)) = (3 :: l.take (32 * k + j)) ++ [y] by
            rw [← Nat.add_assoc, take_snoc8 l (32 * k + j) (by omega), hy, Nat.mul_comm 32 k]; rfl)
          have HTL := Lib.hid (show (3 :: l.take (32 * k + j)).length + [y].length ≤ 140737488355328 by simp [HL.out]; omega)
          have HJ := Lib.hid (show j < 32 from hjt)
          clear hy hlen hjt hj
          have hB := hS.built 5 [y] (by simp)
          clear hS
          go_wp2_with (refine wp_appB rfl (.tmp 15) (.tmp 21) 63 rfl 5 Try.underlying63 info_u8 (3 :: l.take (32 * k + j)) (3 :: l.take (32 * k + (j + 1))) rfl (hB.bytes 1 rfl) _ 1 1 ([y]) rfl (src_own (hB.bytes 0 rfl)) rfl HTK.out HTL.out hB.size ?_)
          intro v' w5 ho hg hv
          have hS1 := hB.appendB 1 rfl ho hg (by first | exact hv | simpa using hv)
          clear ho hg hv hB
          have hS2 := hS1.tail
          clear hS1 c0
          go_wp2
          go_roundw
          case rel => exact ⟨j + 1, by have := HJ.out; omega, by go_num, hS2⟩
          case measure => simp [intOf] <;> omega
        · obtain rfl : j = 32 := by omega
          rw [show 32 * k + 32 = 32 * (k + 1) by omega] at hS
          clear hjt hj
          go_wp2
          go_roundw
          case rel => exact ⟨k + 1, by have := HK.out; omega, by go_num, hS⟩
          case measure => simp [intOf] <;> omega
    · obtain rfl : k = 67 := by omega
      rw [List.take_of_length_le (by rw [HL.out]; omega)] at hS
      clear hlt hk
      obtain ⟨P, hP⟩ : ∃ P, P = 3 :: l := ⟨_, rfl⟩
      have hlP : P.length = 2145 := by rw [hP]; simp [HL.out]
      rw [← hP] at hS
      have HP := Lib.hid hP
      have HLP := Lib.hid hlP
      clear hP hlP
      obtain ⟨A, cp, rfl, hbp, hc1, hc2⟩ := own_open (hS.bytes 0 rfl)
      have HBP := Lib.hid hbp
      clear hbp
      go_wp2_with fail
      refine (rsum_any cp A P _ HBP.out (by rw [HLP.out]; omega)).mono ?_
      rintro e w7 ⟨rfl, hg⟩
      have hS7 := hS.call hg
      clear hg hS
      obtain ⟨D, hD⟩ : ∃ D, D = sha P := ⟨_, rfl⟩
      rw [← hD]
      have hl := sha_length P
      rw [← hD] at hl
      have HFIT := Lib.hid (show 0 + (c8 D).length ≤ zd.length by rw [c8_length, hl]; decide)
      have HEQ := Lib.hid (show (c8 D).length = zd.length by rw [c8_length, hl]; decide)
      have HI := Lib.hid (info_a32 D hl)
      have HRES := Lib.hid (show D = pressL l by rw [hD, HP.out]; rfl)
      clear hD hl
      go_wp2_with (refine wp_storeAgg rfl 22 (.tmp 2) (.tmp 24) rfl w1.heap.size 0 22 zd (c8 (D)) rfl rfl (hS7.row 1 rfl) (by simpa using HI.out) HFIT.out (one8 _) ?_)
      intro wz hdr hgz _
      rw [splice_all HEQ.out] at hdr
      have hSz := hS7.setRow 1 rfl hdr hgz
      clear hdr hgz hS7
      go_wp2
      refine bodyPost_ret (v := .agg (c8 (D)).toArray) (results_cell_row rfl _ _ w1.heap.size _ _ _ _ rfl (hSz.row 1 rfl) Try.underlying22 rfl (by simpa using HI.out)) rfl ⟨(by rw [HRES.out]), hSz.grown⟩
end Go.Proofs.Ytfaekebglijebaa
