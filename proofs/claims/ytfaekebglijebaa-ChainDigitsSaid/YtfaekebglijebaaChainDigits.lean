/- The walk of the law ChainDigits. -/
import Derived.Test.YtfaekebglijebaaChainCrosses
import Derived.StillTail
namespace Go.Proofs.Ytfaekebglijebaa
open Go.RowKit
set_option linter.unusedVariables false

theorem eq_67 (W : World) (a b : List UInt8) (ha : a.length = 67) (hb : b.length = 67) :
    (Op.equalIn 10000 31 (.agg (c8 a).toArray) (.agg (c8 b).toArray)).run Try.prog W = .ok (decide (a = b)) W :=
  run_eq8 W (D := 2) (k := 2) (n := 67) Try.underlying31 (by kernel_rfl) (by kernel_rfl)
    (reads8_array (n := 67) (c := 1) Try.underlying31 (by kernel_rfl) (by kernel_rfl) (reads8_u8 0 Try.underlying5)) a b ha hb 9998
theorem or_left_fin : ∀ L : Fin 1024, bits .or .i64 (bits .or .i64 (((L.val / 256 : Nat) : Int) * 256) (((L.val / 16 % 16 : Nat) : Int) * 16)) ((L.val % 16 : Nat) : Int) = (L.val : Int) := by decide +kernel
theorem or_left (L : Nat) (h : L < 1024) : bits .or .i64 (bits .or .i64 (((L / 256 : Nat) : Int) * 256) (((L / 16 % 16 : Nat) : Int) * 16)) ((L % 16 : Nat) : Int) = (L : Int) := or_left_fin ⟨L, h⟩
theorem or_nib_fin : ∀ y : Fin 256, bits .or .u8 (((y.val / 16 : Nat) : Int) * 16) ((y.val % 16 : Nat) : Int) = (y.val : Int) := by decide +kernel
theorem or_nib (y : UInt8) : bits .or .u8 (((y.toNat / 16 : Nat) : Int) * 16) ((y.toNat % 16 : Nat) : Int) = n8 y := or_nib_fin ⟨y.toNat, y.toNat_lt⟩
theorem left_two' (m : List UInt8) (k : Nat) (h : k < 32) : (leftL m (2 * k) : Int) + (30 - (digN67 m (2 * k) : Int) - (digN67 m (2 * k + 1) : Int)) = (leftL m (2 * (k + 1)) : Int) := by
  have := left_two m k h
  omega

set_option maxRecDepth 100000 in
set_option maxHeartbeats 4000000 in
theorem walk_ChainDigits (w : World) (m : List UInt8) (hm : m.length = 32) :
    Calls Try.prog 4 #[.agg (c8 m).toArray] w fun e w' => e = .returned (.bool true) ∧ w.grownBy w' none := by
  obtain ⟨D, hD⟩ : ∃ D, D = digitsL m := ⟨_, rfl⟩
  have hDl : D.length = 67 := by rw [hD]; exact digitsL_length m
  have c1 := fun W => digits_any m W hm
  have c2 := fun W => rdigits_any m W hm
  have hdc := dig_cells m
  rw [← hD] at c1 c2 hdc
  have heq : ∀ W : World, (Op.equalIn 10000 31 (.agg (c8 D).toArray) (.agg (c8 D).toArray)).run Try.prog W = .ok true W := fun W => by rw [eq_67 W D D hDl hDl, decide_eq_true rfl]
  have HDC := Lib.hid hdc
  have HM := Lib.hid hm
  have HIM := Lib.hid (info_a32 m hm)
  have HI := Lib.hid (info_67 D hDl)
  have HF := Lib.hid (show 0 + (c8 D).length ≤ (c8 z67).length by rw [c8_length, c8_length, hDl]; decide)
  have HE := Lib.hid (show (c8 D).length = (c8 z67).length by rw [c8_length, c8_length, hDl]; decide)
  clear hD hDl hdc hm
  go_enter Try.func4, Try.ntmps4
  go_wp2_with (refine wp_box (o := ⟨some 1, _, _, _, _, _⟩) rfl 22 (.tmp 0) rfl (c8 m) rfl ?_)
  intro w1 hr hg hz
  clear hz
  have hS1 := ((Own.start w)).new hr hg
  clear hr hg
  go_wp2_with (first | (refine wp_load rfl 22 (.tmp 1) rfl Try.underlying22 rfl ⟨w.heap.size, 0, none⟩ rfl (c8 m) HIM.out (row_all (hS1.row 0 rfl)) ?_))
  refine (c1 _).mono ?_
  rintro e w2 ⟨rfl, hg⟩
  have hS2 := hS1.call hg
  clear hg hS1
  go_wp2_with (refine wp_alloc (o := ⟨some 3, _, _, _, _, _⟩) rfl 31 rfl _ alloc_67 ?_)
  intro w3 hr hg hz
  clear hz
  have hS3 := hS2.new hr hg
  clear hr hg
  go_wp2_with (refine wp_storeAgg rfl 31 (.tmp 3) (.tmp 7) rfl w2.heap.size 0 31 (c8 z67) (c8 D) rfl rfl (hS3.row 0 rfl) HI.out HF.out (one8 _) ?_)
  intro w4 hr hg _
  rw [splice_all HE.out] at hr
  have hS4 := hS3.setRow 0 rfl hr hg
  clear hS3 hS2 hr hg c1
  go_wp2
  go_loopw [4, 8] (fun lv iv wr => ∃ k : Nat, k ≤ 32 ∧ iv = .int .i64 (k : Int) ∧ lv = .int .i64 (leftL m (2 * k) : Int) ∧ Own w wr [rowE w2.heap.size 31 (c8 D), rowE w.heap.size 22 (c8 m)]) (fun _ iv _ => 32 - (intOf iv).toNat)
  case atStart => exact ⟨0, by omega, rfl, rfl, hS4⟩
  case round =>
    clear hS4
    obtain ⟨k, hk, rfl, rfl, hS⟩ := hrel
    have hLle := leftL_le m (2 * k)
    by_cases hlt : k < 32
    · have q1 : (k : Int) < 32 := by omega
      have hst := left_two' m k hlt
      obtain ⟨L, hL⟩ : ∃ L, L = leftL m (2 * k) := ⟨_, rfl⟩
      obtain ⟨a, ha⟩ : ∃ a, a = 2 * k := ⟨_, rfl⟩
      obtain ⟨b, hb⟩ : ∃ b, b = a + 1 := ⟨_, rfl⟩
      have hd0 := dig_even m k hlt
      have hd1 := dig_odd m k hlt
      rw [← hL] at hst hLle ⊢
      rw [← ha] at hst hd0 hLle
      rw [← hb] at hst
      rw [show 2 * k + 1 = b by omega] at hd1
      have l0 : (0 : Int) ≤ (L : Int) := by omega
      have l1 : (L : Int) ≤ 960 := by omega
      have e2 : 2 * (k : Int) = (a : Int) := by omega
      have e3 : (a : Int) + 1 = (b : Int) := by omega
      have a0 : (a : Int) < 67 := by omega
      have a1 : (b : Int) < 67 := by omega
      have c0 := c8_get m k (by rw [HM.out]; omega)
      obtain ⟨y, hy⟩ : ∃ y, y = m.getD k 0 := ⟨_, rfl⟩
      rw [← hy] at c0 hd0 hd1
      obtain ⟨p, hp⟩ : ∃ p : Nat, p = y.toNat / 16 := ⟨_, rfl⟩
      obtain ⟨q, hq⟩ : ∃ q : Nat, q = y.toNat % 16 := ⟨_, rfl⟩
      have hpp : (digN67 m a : Int) = (p : Int) := by rw [← hd0, hp]; unfold n8; omega
      have hqq : (digN67 m b : Int) = (q : Int) := by rw [← hd1, hq]; unfold n8; omega
      have c1 := (HDC.out a (by omega)).2
      have c2' := (HDC.out b (by omega)).2
      have hor := or_nib y
      have hy256 := y.toNat_lt
      rw [hpp] at c1 hst
      rw [hqq] at c2' hst
      rw [← hp, ← hq] at hor
      have p0 : (0 : Int) ≤ (p : Int) := by omega
      have p1 : (p : Int) ≤ 15 := by omega
      have r0 : (0 : Int) ≤ (q : Int) := by omega
      have r1 : (q : Int) ≤ 15 := by omega
      have b1 := n8_lo y
      have b2 := n8_hi y
      have CF0 := Lib.hid c0
      have CF1 := Lib.hid c1
      have CF2 := Lib.hid c2'
      clear c0 c1 c2'
      have HST := Lib.hid hst
      have HK := Lib.hid (show k < 32 from hlt)
      clear hy hd0 hd1 hst hL ha hb hLle hlt hk hp hq hpp hqq hy256
      go_wp2
      have hS1 := hS.drew
      clear hS
      refine wp_region_mixC (fun W => Own w W _) (fun _ => true) [(0, true), (1, true), (2, true), (3, true), (4, true), (5, true), (6, true), (7, true), (8, true), (9, true), (10, true), (11, true), (12, true), (13, true), (14, true)] (by kernel_rfl) (by kernel_rfl) hS1 ?_
      iterate 3 (refine wpMix_step rfl (fun K hK => ?_); go_simp; (try go_bits); with_reducible refine hK _ ?_; clear hK K)
      refine wpMix_pureW _ rfl rfl (fun W hW => run_load_cell 5 (.tmp 13) rfl Try.underlying5 rfl ⟨w2.heap.size, a, none⟩ rfl _ (((hW.row 0 rfl).cell a).trans CF1.out)) ?_
      iterate 5 (refine wpMix_step rfl (fun K hK => ?_); go_simp; (try go_bits); with_reducible refine hK _ ?_; clear hK K)
      refine wpMix_pureW _ rfl rfl (fun W hW => run_load_cell 5 (.tmp 19) rfl Try.underlying5 rfl ⟨w2.heap.size, b, none⟩ rfl _ (((hW.row 0 rfl).cell b).trans CF2.out)) ?_
      iterate 3 (refine wpMix_step rfl (fun K hK => ?_); go_simp; (try go_bits); with_reducible refine hK _ ?_; clear hK K)
      refine wpMix_pureW _ rfl rfl (fun W hW => run_load_cell 5 (.tmp 23) rfl Try.underlying5 rfl ⟨w.heap.size, k, none⟩ rfl _ (((hW.row 1 rfl).cell k).trans CF0.out)) ?_
      iterate 1 (refine wpMix_step rfl (fun K hK => ?_); go_simp; (try go_bits); with_reducible refine hK _ ?_; clear hK K)
      unfold wpMix
      go_wp2
      have hS2 := hS1.drew
      clear hS1
      refine wp_region_mixC (fun W => Own w W _) (fun _ => true) [(0, true), (1, true), (2, true), (3, true), (4, true), (5, true), (6, true), (7, true), (8, true), (9, true), (10, true), (11, true), (12, true), (13, true), (14, true), (15, false)] (by kernel_rfl) (by kernel_rfl) hS2 ?_
      iterate 4 (refine wpMix_step rfl (fun K hK => ?_); go_simp; (try go_bits); with_reducible refine hK _ ?_; clear hK K)
      refine wpMix_pureW _ rfl rfl (fun W hW => run_load_cell 5 (.tmp 29) rfl Try.underlying5 rfl ⟨w2.heap.size, a, none⟩ rfl _ (((hW.row 0 rfl).cell a).trans CF1.out)) ?_
      iterate 6 (refine wpMix_step rfl (fun K hK => ?_); go_simp; (try go_bits); with_reducible refine hK _ ?_; clear hK K)
      refine wpMix_pureW _ rfl rfl (fun W hW => run_load_cell 5 (.tmp 36) rfl Try.underlying5 rfl ⟨w2.heap.size, b, none⟩ rfl _ (((hW.row 0 rfl).cell b).trans CF2.out)) ?_
      iterate 3 (refine wpMix_step rfl (fun K hK => ?_); go_simp; (try go_bits); with_reducible refine hK _ ?_; clear hK K)
      refine wpMix_loudW _ rfl rfl ?_
      go_wp2_with fail
      refine wpMix_next' (fun _ => hS2) ?_
      unfold wpMix
      go_wp2
      go_roundw
      case rel => exact ⟨k + 1, by have := HK.out; omega, by go_num, by rw [← HST.out], hS2⟩
      case measure => simp [intOf] <;> omega
    · obtain rfl : k = 32 := by omega
      have hd := dig_64 m
      rw [show 2 * 32 = 64 from rfl] at hLle
      obtain ⟨L, hL⟩ : ∃ L, L = leftL m 64 := ⟨_, rfl⟩
      have hor := or_left L (by omega)
      rw [← hL] at hd hLle
      rw [show 2 * 32 = 64 from rfl, ← hL]
      obtain ⟨x, hx⟩ : ∃ x, x = L / 256 := ⟨_, rfl⟩
      obtain ⟨y, hy⟩ : ∃ y, y = L / 16 % 16 := ⟨_, rfl⟩
      obtain ⟨z, hz⟩ : ∃ z, z = L % 16 := ⟨_, rfl⟩
      rw [← hx, ← hy, ← hz] at hor hd
      have f4 := (HDC.out 64 (by omega)).2
      have f5 := (HDC.out 65 (by omega)).2
      have f6 := (HDC.out 66 (by omega)).2
      rw [← hd.1] at f4
      rw [← hd.2.1] at f5
      rw [← hd.2.2] at f6
      have F4 := Lib.hid f4
      have F5 := Lib.hid f5
      have F6 := Lib.hid f6
      have x0 : (0 : Int) ≤ (x : Int) := by omega
      have x1 : (x : Int) ≤ 3 := by omega
      have y0 : (0 : Int) ≤ (y : Int) := by omega
      have y1 : (y : Int) ≤ 15 := by omega
      have z0 : (0 : Int) ≤ (z : Int) := by omega
      have z1 : (z : Int) ≤ 15 := by omega
      obtain ⟨O1, hO1⟩ : ∃ O1, bits .or .i64 ((x : Int) * 256) ((y : Int) * 16) = O1 := ⟨_, rfl⟩
      rw [hO1] at hor
      clear hd hL hx hy hz hLle hlt hk f4 f5 f6
      go_wp2_with fail
      have hS5 := hS.drew
      clear hS
      refine wp_region_mixC (fun W => Own w W _) (fun _ => true) [(0, false), (1, true), (2, true), (3, true), (4, false), (5, true), (6, true), (7, true), (8, true), (9, true), (10, true), (11, true), (12, true), (13, true), (14, true), (15, true), (16, true), (17, true), (18, true), (19, true), (20, true), (21, true), (22, true), (23, true), (24, false)] (by kernel_rfl) (by kernel_rfl) hS5 ?_
      refine wpMix_loudW _ rfl rfl ?_
      go_wp2_with fail
      refine (awake_any _).mono ?_
      rintro e w6 ⟨rfl, hg⟩
      have hS6 := hS5.call hg
      clear hg hS5
      go_wp2_with fail
      refine wpMix_next' (fun _ => hS6) ?_
      iterate 1 (refine wpMix_step rfl (fun K hK => ?_); go_simp; (try go_bits); with_reducible refine hK _ ?_; clear hK K)
      refine wpMix_pureW (.agg (c8 D).toArray) rfl rfl (fun W hW => run_load_op 31 (.tmp 3) rfl Try.underlying31 rfl ⟨w2.heap.size, 0, none⟩ rfl _ HI.out (row_all (hW.row 0 rfl))) ?_
      refine wpMix_pureW (.agg (c8 m).toArray) rfl rfl (fun W hW => run_load_op 22 (.tmp 1) rfl Try.underlying22 rfl ⟨w.heap.size, 0, none⟩ rfl _ HIM.out (row_all (hW.row 1 rfl))) ?_
      refine wpMix_loudW _ rfl rfl ?_
      go_wp2_with fail
      refine (c2 _).mono ?_
      rintro e w7 ⟨rfl, hg⟩
      have hS7 := hS6.call hg
      clear hg hS6
      go_wp2_with fail
      refine wpMix_next' (fun _ => hS7) ?_
      iterate 4 (refine wpMix_step rfl (fun K hK => ?_); go_simp; (try go_bits); with_reducible refine hK _ ?_; clear hK K)
      refine wpMix_pureW _ rfl rfl (fun W hW => run_load_cell 5 (.tmp 50) rfl Try.underlying5 rfl ⟨w2.heap.size, 64, none⟩ rfl _ (((hW.row 0 rfl).cell 64).trans F4.out)) ?_
      iterate 3 (refine wpMix_step rfl (fun K hK => ?_); go_simp; (try go_bits); with_reducible refine hK _ ?_; clear hK K)
      refine wpMix_pureW _ rfl rfl (fun W hW => run_load_cell 5 (.tmp 54) rfl Try.underlying5 rfl ⟨w2.heap.size, 65, none⟩ rfl _ (((hW.row 0 rfl).cell 65).trans F5.out)) ?_
      iterate 4 (refine wpMix_step rfl (fun K hK => ?_); go_simp; (try go_bits); with_reducible refine hK _ ?_; clear hK K)
      refine wpMix_pureW _ rfl rfl (fun W hW => run_load_cell 5 (.tmp 59) rfl Try.underlying5 rfl ⟨w2.heap.size, 66, none⟩ rfl _ (((hW.row 0 rfl).cell 66).trans F6.out)) ?_
      iterate 5 (refine wpMix_step rfl (fun K hK => ?_); go_simp; (try go_bits); with_reducible refine hK _ ?_; clear hK K)
      refine wpMix_loudW _ rfl rfl ?_
      go_wp2_with fail
      refine wpMix_next' (fun _ => hS7) ?_
      unfold wpMix
      go_wp2
      go_ret
      exact ⟨rfl, hS7.grown⟩
end Go.Proofs.Ytfaekebglijebaa
