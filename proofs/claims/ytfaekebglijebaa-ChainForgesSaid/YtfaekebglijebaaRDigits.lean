/- The contract of the document's Digits. -/
import Derived.Test.YtfaekebglijebaaDigits
import Derived.StillTail
namespace Go.Proofs.Ytfaekebglijebaa
open Go.RowKit
set_option linter.unusedVariables false

theorem left_two (m : List UInt8) (k : Nat) (h : k < 32) : (leftL m (2 * k) : Int) + 30 - (digN67 m (2 * k) : Int) - (digN67 m (2 * k + 1) : Int) = (leftL m (2 * (k + 1)) : Int) := by
  have h1 := left_step m (2 * k) (by omega)
  have h2 := left_step m (2 * k + 1) (by omega)
  rw [show 2 * k + 1 + 1 = 2 * (k + 1) by omega] at h2
  omega
set_option maxRecDepth 100000 in
set_option maxHeartbeats 4000000 in
theorem rdigits_any (m : List UInt8) (w : World) (hm : m.length = 32) :
    Calls Try.prog 14 #[.agg (c8 m).toArray] w fun e w' => e = .returned (.agg (c8 (digitsL m)).toArray) ∧ w.grownBy w' none := by
  have HL := Lib.hid hm
  clear hm
  go_enter Try.func14, Try.ntmps14
  go_wp2_with (refine wp_box (o := ⟨some 1, _, _, _, _, _⟩) rfl 22 (.tmp 0) rfl (c8 m) rfl ?_)
  intro w1 hr hg hz
  clear hz
  have hS1 := ((Own.start w)).new hr hg
  clear hr hg
  go_wp2_with (refine wp_alloc (o := ⟨some 2, _, _, _, _, _⟩) rfl 31 rfl _ alloc_67 ?_)
  intro w2 hr hg hz
  clear hz
  have hS2 := hS1.new hr hg
  clear hr hg
  go_wp2_with (refine wp_alloc (o := ⟨some 3, _, _, _, _, _⟩) rfl 31 rfl _ alloc_67 ?_)
  intro w3 hr hg hz
  clear hz
  have hS3 := hS2.new hr hg
  clear hr hg
  clear hS1 hS2
  go_wp2
  go_loopw [4, 5] (fun lv iv wr => ∃ k : Nat, k ≤ 32 ∧ iv = .int .i64 (k : Int) ∧ lv = .int .i64 (leftL m (2 * k) : Int) ∧ Own w wr [rowE w2.heap.size 31 (c8 (dpre m (2 * k))), rowE w1.heap.size 31 (c8 z67), rowE w.heap.size 22 (c8 m)]) (fun _ iv _ => 32 - (intOf iv).toNat)
  case atStart => exact ⟨0, by omega, rfl, rfl, hS3⟩
  case round =>
    clear hS3
    obtain ⟨k, hk, rfl, rfl, hS⟩ := hrel
    have hLle := leftL_le m (2 * k)
    by_cases hlt : k < 32
    · have q1 : (k : Int) < 32 := by omega
      have hst := left_two m k hlt
      obtain ⟨L, hL⟩ : ∃ L, L = leftL m (2 * k) := ⟨_, rfl⟩
      obtain ⟨a, ha⟩ : ∃ a, a = 2 * k := ⟨_, rfl⟩
      obtain ⟨b, hb⟩ : ∃ b, b = a + 1 := ⟨_, rfl⟩
      have hd0 := dig_even m k hlt
      have hd1 := dig_odd m k hlt
      rw [← hL] at hst hLle
      rw [← ha] at hst hd0 hd1 hS hLle
      rw [← hb] at hst hd1
      have l0 : (0 : Int) ≤ (L : Int) := by omega
      have l1 : (L : Int) ≤ 960 := by omega
      have e2 : 2 * (k : Int) = (a : Int) := by omega
      have e3 : (a : Int) + 1 = (b : Int) := by omega
      have a0 : (a : Int) < 67 := by omega
      have a1 : (b : Int) < 67 := by omega
      have c0 := ((hS.row 2 rfl).cell k).trans (c8_get m k (by rw [HL.out]; omega))
      have f0 := (hS.row 0 rfl).frozen a
      have f1 := ((hS.row 0 rfl).cell a).trans (c8_get (dpre m a) a (by rw [dpre_length m a (by omega)]; omega))
      obtain ⟨y, hy⟩ : ∃ y, y = m.getD k 0 := ⟨_, rfl⟩
      rw [← hy] at c0 hd0 hd1
      have b1 := n8_lo y
      have b2 := n8_hi y
      have hS1 := hS.set 0 rfl a (.int .u8 (n8 y / 16))
      rw [dpre_set8 m a (n8 y / 16) (by omega) (by rw [hd0, n8_d8]), ← hb] at hS1
      have f2 := (hS1.row 0 rfl).frozen b
      have f3 := ((hS1.row 0 rfl).cell b).trans (c8_get (dpre m b) b (by rw [dpre_length m b (by omega)]; omega))
      have c1 := ((hS1.row 2 rfl).cell k).trans (c8_get m k (by rw [HL.out]; omega))
      rw [← hy] at c1
      have hS2 := hS1.set 0 rfl b (.int .u8 (n8 y % 16))
      have hcs : ((c8 (dpre m b)).set b (.int .u8 (n8 y % 16)))[b]? = some (.int .u8 (n8 y % 16)) := by rw [List.getElem?_set_self (by rw [c8_length, dpre_length m b (by omega)]; omega)]
      have f5 := ((hS2.row 0 rfl).cell b).trans hcs
      have hca : ((c8 (dpre m b)).set b (.int .u8 (n8 y % 16)))[a]? = some (.int .u8 (n8 y / 16)) := by
        rw [List.getElem?_set_ne (by omega), hb, ← dpre_set8 m a (n8 y / 16) (by omega) (by rw [hd0, n8_d8]), List.getElem?_set_self (by rw [c8_length, dpre_length m a (by omega)]; omega)]
      have f4 := ((hS2.row 0 rfl).cell a).trans hca
      rw [dpre_set8 m b (n8 y % 16) (by omega) (by rw [hd1, n8_d8])] at hS2
      rw [← hd0, ← hd1] at hst
      rw [show b + 1 = 2 * (k + 1) by omega] at hS2
      have HST := Lib.hid hst
      have HK := Lib.hid (show k < 32 from hlt)
      rw [← hL]
      clear hS hS1 hy hd0 hd1 hst hL ha hb hLle hlt hk hcs hca
      go_wp2
      clear f0 f1 f2 f3 c0 c1
      obtain ⟨W2, hW2⟩ : ∃ W2, W2 = (wr.setCell ⟨w2.heap.size, a, none⟩ (.int .u8 (n8 y / 16))).setCell ⟨w2.heap.size, b, none⟩ (.int .u8 (n8 y % 16)) := ⟨_, rfl⟩
      rw [← hW2] at f4 f5 hS2 ⊢
      have hS3 := hS2.drew
      clear hW2 hS2
      refine wp_region_still_tail 15 (by kernel_rfl) (by kernel_rfl) ?_
      simp only [List.take_succ_cons, List.take_zero, List.drop_succ_cons, List.drop_zero]
      iterate 15 (refine wpStill_step (fun K hK => ?_); go_simp; (try go_bits); refine hK _ ?_; clear hK K)
      refine wpStill_nil ?_
      change wpList _ _ _ _ _ (World.drew _)
      go_wp2
      go_roundw
      case rel => exact ⟨k + 1, by have := HK.out; omega, by go_num, by rw [← HST.out], hS3⟩
      case measure => simp [intOf] <;> omega
    · obtain rfl : k = 32 := by omega
      have hd := dig_64 m
      rw [show 2 * 32 = 64 from rfl] at hS hLle
      obtain ⟨L, hL⟩ : ∃ L, L = leftL m 64 := ⟨_, rfl⟩
      rw [← hL] at hd hLle
      rw [show 2 * 32 = 64 from rfl, ← hL]
      obtain ⟨L1, hL1⟩ : ∃ L1, L1 = L / 16 := ⟨_, rfl⟩
      have x0 : (L : Int) ≤ 960 := by omega
      have x00 : (0 : Int) ≤ (L : Int) := by omega
      have x1 : (L : Int) / 16 = (L1 : Int) := by omega
      have y0 : (L1 : Int) ≤ 960 := by omega
      have y00 : (0 : Int) ≤ (L1 : Int) := by omega
      have g4 : (L : Int) / 256 = n8 (d8 m 64) := by rw [n8_d8, ← hd.1]; omega
      have g5 : (L1 : Int) % 16 = n8 (d8 m 65) := by rw [n8_d8, ← hd.2.1]; omega
      have g6 : (L : Int) % 16 = n8 (d8 m 66) := by rw [n8_d8, ← hd.2.2]; omega
      have i4 := n8_lo (d8 m 64)
      have j4 := n8_hi (d8 m 64)
      have i5 := n8_lo (d8 m 65)
      have j5 := n8_hi (d8 m 65)
      have i6 := n8_lo (d8 m 66)
      have j6 := n8_hi (d8 m 66)
      have f0 := (hS.row 0 rfl).frozen 64
      have f1 := ((hS.row 0 rfl).cell 64).trans (c8_get (dpre m 64) 64 (by rw [dpre_length m 64 (by omega)]; omega))
      have hS1 := hS.set 0 rfl 64 (.int .u8 (n8 (d8 m 64)))
      rw [dpre_set8 m 64 _ (by omega) rfl] at hS1
      have f2 := (hS1.row 0 rfl).frozen 65
      have f3 := ((hS1.row 0 rfl).cell 65).trans (c8_get (dpre m 65) 65 (by rw [dpre_length m 65 (by omega)]; omega))
      have hS2 := hS1.set 0 rfl 65 (.int .u8 (n8 (d8 m 65)))
      rw [dpre_set8 m 65 _ (by omega) rfl] at hS2
      have f4 := (hS2.row 0 rfl).frozen 66
      have f5 := ((hS2.row 0 rfl).cell 66).trans (c8_get (dpre m 66) 66 (by rw [dpre_length m 66 (by omega)]; omega))
      have hS3 := hS2.set 0 rfl 66 (.int .u8 (n8 (d8 m 66)))
      rw [dpre_set8 m 66 _ (by omega) rfl, dpre_full] at hS3
      clear hS hS1 hS2 hd hL hL1 hlt hk hLle
      obtain ⟨D, hD⟩ : ∃ D, D = digitsL m := ⟨_, rfl⟩
      have hDl : D.length = 67 := by rw [hD]; exact digitsL_length m
      rw [← hD] at hS3
      have HRES := Lib.hid hD
      have HFIT := Lib.hid (show 0 + (c8 D).length ≤ (c8 z67).length by rw [c8_length, c8_length, hDl]; decide)
      have HEQ := Lib.hid (show (c8 D).length = (c8 z67).length by rw [c8_length, c8_length, hDl]; decide)
      have HI := Lib.hid (info_67 D hDl)
      clear hD hDl
      go_wp2_with (first | (refine wp_load rfl 31 (.tmp 3) rfl Try.underlying31 rfl ⟨w2.heap.size, 0, none⟩ rfl (c8 D) HI.out (row_all (hS3.row 0 rfl)) ?_) | (refine wp_storeAgg rfl 31 (.tmp 2) (.tmp 53) rfl w1.heap.size 0 31 (c8 z67) (c8 (D)) rfl rfl (hS3.row 1 rfl) HI.out HFIT.out (one8 _) ?_))
      intro wz hdr hgz _
      rw [splice_all HEQ.out] at hdr
      have hSz := hS3.setRow 1 rfl hdr hgz
      clear hdr hgz hS3
      go_wp2
      refine bodyPost_ret (v := .agg (c8 (D)).toArray) (results_cell_row rfl _ _ w1.heap.size _ _ _ _ rfl (hSz.row 1 rfl) Try.underlying31 rfl HI.out) rfl ⟨(by rw [HRES.out]), hSz.grown⟩
end Go.Proofs.Ytfaekebglijebaa
