/- The contracts of Digits, the program's and the document's. -/
import Derived.Test.YtfaekebglijebaaClimbs
import Derived.Test.YtfaekebglijebaaMix2
namespace Go.Proofs.Ytfaekebglijebaa
open Go.RowKit
set_option linter.unusedVariables false

def z67 : List UInt8 := List.replicate 67 0
theorem alloc_67 (W : World) : (Instr.alloc 31 true (.tuple #[])).run Try.prog W = .ok (.pointer (some ⟨W.heap.size, 0, none⟩)) (W.alloc (.cells (c8 z67).toArray 31)) := by kernel_rfl
theorem info_67 (l : List UInt8) (h : l.length = 67) : (Try.prog.info? 31).map (·.size) = some (c8 l).length := by rw [c8_length, h]; kernel_rfl
def d8 (m : List UInt8) (i : Nat) : UInt8 := UInt8.ofNat (digN67 m i)
def pre (m : List UInt8) (k : Nat) : List UInt8 := (List.range k).map (d8 m)
def dpre (m : List UInt8) (k : Nat) : List UInt8 := pre m k ++ List.replicate (67 - k) 0
theorem dpre_length (m : List UInt8) (k : Nat) (h : k ≤ 67) : (dpre m k).length = 67 := by simp [dpre, pre]; omega
theorem dpre_set (m : List UInt8) (k : Nat) (h : k < 67) : (dpre m k).set k (d8 m k) = dpre m (k + 1) := by
  obtain ⟨r, hr⟩ : ∃ r, 67 - k = r + 1 := ⟨66 - k, by omega⟩
  unfold dpre
  rw [hr, show 67 - (k + 1) = r by omega, List.set_append_right _ _ (by simp [pre]), List.replicate_succ]
  simp [pre, List.range_succ]
theorem dpre_full (m : List UInt8) : dpre m 67 = digitsL m := by simp [dpre, pre, digitsL]; intro a _; rfl
theorem dpre_set8 (m : List UInt8) (k : Nat) (v : Int) (h : k < 67) (hv : v = n8 (d8 m k)) : (c8 (dpre m k)).set k (.int .u8 v) = c8 (dpre m (k + 1)) := by
  rw [hv, c8_set, dpre_set m k h]
/-- the last three, from the top down -/
def tail3 (m : List UInt8) : Nat → List UInt8
  | 0 => [0, 0, 0]
  | 1 => [0, 0, d8 m 66]
  | 2 => [0, d8 m 65, d8 m 66]
  | _ => [d8 m 64, d8 m 65, d8 m 66]
theorem tail_set (m : List UInt8) (r : Nat) (v : Int) (h : r < 3) (hv : v = n8 (d8 m (66 - r))) : (c8 (pre m 64 ++ tail3 m r)).set (66 - r) (.int .u8 v) = c8 (pre m 64 ++ tail3 m (r + 1)) := by
  rw [hv, c8_set, List.set_append_right _ _ (by simp [pre]; omega)]
  match r, h with
  | 0, _ | 1, _ | 2, _ => simp [pre, tail3]
theorem tail_zero (m : List UInt8) : dpre m 64 = pre m 64 ++ tail3 m 0 := rfl
theorem tail_full (m : List UInt8) : pre m 64 ++ tail3 m 3 = digitsL m := by
  rw [← dpre_full]
  simp [dpre, pre, List.range_succ, tail3]
theorem and15_fin : ∀ L : Fin 1024, bits .and .i64 ((L.val : Nat) : Int) 15 = ((L.val % 16 : Nat) : Int) := by decide +kernel
theorem and15 (L : Nat) (h : L < 1024) : bits .and .i64 (L : Int) 15 = (L : Int) % 16 := (and15_fin ⟨L, h⟩).trans (by show ((L % 16 : Nat) : Int) = _; omega)
theorem n8_d8 (m : List UInt8) (i : Nat) : n8 (d8 m i) = (digN67 m i : Int) := by unfold n8 d8; rw [digit_toNat]
theorem dig_even (m : List UInt8) (j : Nat) (h : j < 32) : n8 (m.getD j 0) / 16 = (digN67 m (2 * j) : Int) := by
  unfold n8 digN67 nib
  rw [if_pos (by omega), if_pos (by omega), show 2 * j / 2 = j by omega]; omega
theorem dig_odd (m : List UInt8) (j : Nat) (h : j < 32) : n8 (m.getD j 0) % 16 = (digN67 m (2 * j + 1) : Int) := by
  unfold n8 digN67 nib
  rw [if_pos (by omega), if_neg (by omega), show (2 * j + 1) / 2 = j by omega]; omega
theorem left_step (m : List UInt8) (k : Nat) (h : k < 64) : (leftL m k : Int) + (15 - (digN67 m k : Int)) = (leftL m (k + 1) : Int) := by
  have := nib_lt m k
  simp only [leftL]
  unfold digN67
  rw [if_pos h]; omega
theorem dig_64 (m : List UInt8) : ((leftL m 64 / 256 : Nat) : Int) = (digN67 m 64 : Int) ∧ ((leftL m 64 / 16 % 16 : Nat) : Int) = (digN67 m 65 : Int) ∧ ((leftL m 64 % 16 : Nat) : Int) = (digN67 m 66 : Int) := by
  unfold digN67; simp

set_option maxRecDepth 100000 in
set_option maxHeartbeats 4000000 in
theorem digits_any (m : List UInt8) (w : World) (hm : m.length = 32) :
    Calls Try.prog 13 #[.agg (c8 m).toArray] w fun e w' => e = .returned (.agg (c8 (digitsL m)).toArray) ∧ w.grownBy w' none := by
  have HL := Lib.hid hm
  clear hm
  go_enter Try.func13, Try.ntmps13
  go_wp2_with (refine wp_box (o := ⟨some 1, _, _, _, _, _⟩) rfl 24 (.tmp 0) rfl (c8 m) rfl ?_)
  intro w1 hr hg hz
  clear hz
  have hS1 := ((Own.start w)).new hr hg
  clear hr hg
  go_wp2_with (refine wp_alloc (o := ⟨some 2, _, _, _, _, _⟩) rfl 31 rfl _ alloc_67 ?_)
  intro w2 hr hg hz
  clear hz
  have hS2 := hS1.new hr hg
  clear hr hg
  go_wp2_with (refine wp_alloc (o := ⟨some 3, _, _, _, _, _⟩) rfl 31 rfl _ alloc_67 ?_)
  intro w3 hr hg hz
  clear hz
  have hS3 := hS2.new hr hg
  clear hr hg
  clear hS1 hS2
  go_wp2
  go_loopw [4, 8] (fun lv iv wr => ∃ k : Nat, k ≤ 64 ∧ iv = .int .i64 (k : Int) ∧ lv = .int .i64 (leftL m k : Int) ∧ Own w wr [rowE w2.heap.size 31 (c8 (dpre m k)), rowE w1.heap.size 31 (c8 z67), rowE w.heap.size 24 (c8 m)]) (fun _ iv _ => 64 - (intOf iv).toNat)
  case atStart => exact ⟨0, by omega, rfl, rfl, hS3⟩
  case round =>
    clear hS3
    obtain ⟨k, hk, rfl, rfl, hS⟩ := hrel
    have hLle := leftL_le m k
    by_cases hlt : k < 64
    · have q1 : (k : Int) < 64 := by omega
      have hst := left_step m k hlt
      obtain ⟨L, hL⟩ : ∃ L, L = leftL m k := ⟨_, rfl⟩
      rw [← hL] at hst hLle
      have l0 : (0 : Int) ≤ (L : Int) := by omega
      have l1 : (L : Int) ≤ 960 := by omega
      have f0 := (hS.row 0 rfl).frozen k
      have f1 := ((hS.row 0 rfl).cell k).trans (c8_get (dpre m k) k (by rw [dpre_length m k (by omega)]; omega))
      rcases Nat.mod_two_eq_zero_or_one k with hk2 | hk2
      · obtain ⟨j, hj⟩ : ∃ j, k = 2 * j := ⟨k / 2, by omega⟩
        have e2 : (k : Int) / 2 = (j : Int) := by omega
        have e3 : (k : Int) % 2 = 0 := by omega
        have j0 : (j : Int) < 32 := by omega
        have c0 := ((hS.row 2 rfl).cell j).trans (c8_get m j (by rw [HL.out]; omega))
        have hd := dig_even m j (by omega)
        rw [← hj] at hd
        obtain ⟨y, hy⟩ : ∃ y, y = m.getD j 0 := ⟨_, rfl⟩
        rw [← hy] at c0 hd
        have b1 := n8_lo y
        have b2 := n8_hi y
        rw [← hd] at hst
        have HST := Lib.hid hst
        have hS1 := hS.set 0 rfl k (.int .u8 (n8 y / 16))
        have HR := Lib.hid (dpre_set8 m k (n8 y / 16) (by omega) (by rw [hd, n8_d8]))
        rw [HR.out] at hS1
        rw [← hL]
        have HK := Lib.hid (show k < 64 from hlt)
        clear hS hy hd hst hL hj hk2 hLle hlt hk HR
        go_wp2
        go_roundw
        case rel => exact ⟨k + 1, by have := HK.out; omega, by go_num, by rw [← HST.out], hS1⟩
        case measure => simp [intOf] <;> omega
      · obtain ⟨j, hj⟩ : ∃ j, k = 2 * j + 1 := ⟨k / 2, by omega⟩
        have e2 : (k : Int) / 2 = (j : Int) := by omega
        have e3 : (k : Int) % 2 = 1 := by omega
        have j0 : (j : Int) < 32 := by omega
        have c0 := ((hS.row 2 rfl).cell j).trans (c8_get m j (by rw [HL.out]; omega))
        have hd := dig_odd m j (by omega)
        rw [← hj] at hd
        obtain ⟨y, hy⟩ : ∃ y, y = m.getD j 0 := ⟨_, rfl⟩
        rw [← hy] at c0 hd
        have b1 := n8_lo y
        have b2 := n8_hi y
        rw [← hd] at hst
        have HST := Lib.hid hst
        have hS1 := hS.set 0 rfl k (.int .u8 (n8 y % 16))
        have HR := Lib.hid (dpre_set8 m k (n8 y % 16) (by omega) (by rw [hd, n8_d8]))
        rw [HR.out] at hS1
        rw [← hL]
        have HK := Lib.hid (show k < 64 from hlt)
        clear hS hy hd hst hL hj hk2 hLle hlt hk HR
        go_wp2
        go_roundw
        case rel => exact ⟨k + 1, by have := HK.out; omega, by go_num, by rw [← HST.out], hS1⟩
        case measure => simp [intOf] <;> omega
    · obtain rfl : k = 64 := by omega
      have hd := dig_64 m
      obtain ⟨L, hL⟩ : ∃ L, L = leftL m 64 := ⟨_, rfl⟩
      rw [← hL] at hd hLle
      obtain ⟨L1, hL1⟩ : ∃ L1, L1 = L / 16 := ⟨_, rfl⟩
      obtain ⟨L2, hL2⟩ : ∃ L2, L2 = L1 / 16 := ⟨_, rfl⟩
      have hS0 : Own w wr [rowE w2.heap.size 31 (c8 (pre m 64 ++ tail3 m 0)), rowE w1.heap.size 31 (c8 z67), rowE w.heap.size 24 (c8 m)] := hS
      have HRES := Lib.hid (tail_full m)
      have HSET := Lib.hid (tail_set m)
      have x0 : (L : Int) ≤ 960 := by omega
      have x1 : (L : Int) / 16 = (L1 : Int) := by omega
      have x2 : (L1 : Int) / 16 = (L2 : Int) := by omega
      have HD6 := Lib.hid (show (L : Int) % 16 = n8 (d8 m 66) by rw [n8_d8, ← hd.2.2]; omega)
      have HD5 := Lib.hid (show (L1 : Int) % 16 = n8 (d8 m 65) by rw [n8_d8, ← hd.2.1]; omega)
      have HD4 := Lib.hid (show (L2 : Int) % 16 = n8 (d8 m 64) by rw [n8_d8, ← hd.1]; omega)
      have y0 : (L1 : Int) ≤ 960 := by omega
      have y1 : (L2 : Int) ≤ 960 := by omega
      rw [← hL]
      clear hd hL hL1 hL2 hS hlt hk hLle
      go_wp2
      go_loopw [4, 7] (fun lv iv wr => (iv = .int .i64 66 ∧ lv = .int .i64 (L : Int) ∧ Own w wr [rowE w2.heap.size 31 (c8 (pre m 64 ++ tail3 m 0)), rowE w1.heap.size 31 (c8 z67), rowE w.heap.size 24 (c8 m)]) ∨
        (iv = .int .i64 65 ∧ lv = .int .i64 (L1 : Int) ∧ Own w wr [rowE w2.heap.size 31 (c8 (pre m 64 ++ tail3 m 1)), rowE w1.heap.size 31 (c8 z67), rowE w.heap.size 24 (c8 m)]) ∨
        (iv = .int .i64 64 ∧ lv = .int .i64 (L2 : Int) ∧ Own w wr [rowE w2.heap.size 31 (c8 (pre m 64 ++ tail3 m 2)), rowE w1.heap.size 31 (c8 z67), rowE w.heap.size 24 (c8 m)]) ∨
        (iv = .int .i64 63 ∧ Own w wr [rowE w2.heap.size 31 (c8 (pre m 64 ++ tail3 m 3)), rowE w1.heap.size 31 (c8 z67), rowE w.heap.size 24 (c8 m)])) (fun _ iv _ => (intOf iv).toNat - 63)
      case atStart => exact .inl ⟨rfl, rfl, hS0⟩
      case round =>
        clear hS0
        rcases hrel with ⟨rfl, rfl, hS⟩ | ⟨rfl, rfl, hS⟩ | ⟨rfl, rfl, hS⟩ | ⟨rfl, hS⟩
        · have f0 := (hS.row 0 rfl).frozen 66
          have f1 := ((hS.row 0 rfl).cell 66).trans (c8_get (pre m 64 ++ tail3 m 0) 66 (by simp [pre, tail3]))
          have g1 := and15 L (by omega)
          rw [HD6.out] at g1
          have g2 := n8_lo (d8 m 66)
          have g3 := n8_hi (d8 m 66)
          have hS1 := hS.set 0 rfl 66 (.int .u8 (n8 (d8 m 66)))
          rw [HSET.out 0 _ (by omega) rfl] at hS1
          clear hS
          go_wp2
          go_roundw
          case rel => exact .inr (.inl ⟨rfl, rfl, hS1⟩)
          case measure => simp [intOf]
        · have f0 := (hS.row 0 rfl).frozen 65
          have f1 := ((hS.row 0 rfl).cell 65).trans (c8_get (pre m 64 ++ tail3 m 1) 65 (by simp [pre, tail3]))
          have g1 := and15 L1 (by omega)
          rw [HD5.out] at g1
          have g2 := n8_lo (d8 m 65)
          have g3 := n8_hi (d8 m 65)
          have hS1 := hS.set 0 rfl 65 (.int .u8 (n8 (d8 m 65)))
          rw [HSET.out 1 _ (by omega) rfl] at hS1
          clear hS
          go_wp2
          go_roundw
          case rel => exact .inr (.inr (.inl ⟨rfl, rfl, hS1⟩))
          case measure => simp [intOf]
        · have f0 := (hS.row 0 rfl).frozen 64
          have f1 := ((hS.row 0 rfl).cell 64).trans (c8_get (pre m 64 ++ tail3 m 2) 64 (by simp [pre, tail3]))
          have g1 := and15 L2 (by omega)
          rw [HD4.out] at g1
          have g2 := n8_lo (d8 m 64)
          have g3 := n8_hi (d8 m 64)
          have hS1 := hS.set 0 rfl 64 (.int .u8 (n8 (d8 m 64)))
          rw [HSET.out 2 _ (by omega) rfl] at hS1
          clear hS
          go_wp2
          go_roundw
          case rel => exact .inr (.inr (.inr ⟨rfl, hS1⟩))
          case measure => simp [intOf]
        · rw [HRES.out] at hS
          obtain ⟨D, hD⟩ : ∃ D, D = digitsL m := ⟨_, rfl⟩
          have hDl : D.length = 67 := by rw [hD]; exact digitsL_length m
          rw [← hD] at hS
          have HRES := Lib.hid hD
          have HFIT := Lib.hid (show 0 + (c8 D).length ≤ (c8 z67).length by rw [c8_length, c8_length, hDl]; decide)
          have HEQ := Lib.hid (show (c8 D).length = (c8 z67).length by rw [c8_length, c8_length, hDl]; decide)
          have HI := Lib.hid (info_67 D hDl)
          clear hD hDl
          go_wp2_with (first | (refine wp_load rfl 31 (.tmp 3) rfl Try.underlying31 rfl ⟨w2.heap.size, 0, none⟩ rfl (c8 D) HI.out (row_all (hS.row 0 rfl)) ?_) | (refine wp_storeAgg rfl 31 (.tmp 2) (.tmp 44) rfl w1.heap.size 0 31 (c8 z67) (c8 (D)) rfl rfl (hS.row 1 rfl) HI.out HFIT.out (one8 _) ?_))
          intro wz hdr hgz _
          rw [splice_all HEQ.out] at hdr
          have hSz := hS.setRow 1 rfl hdr hgz
          clear hdr hgz hS
          go_wp2
          refine bodyPost_ret (v := .agg (c8 (D)).toArray) (results_cell_row rfl _ _ w1.heap.size _ _ _ _ rfl (hSz.row 1 rfl) Try.underlying31 rfl HI.out) rfl ⟨(by rw [HRES.out]), hSz.grown⟩
end Go.Proofs.Ytfaekebglijebaa
