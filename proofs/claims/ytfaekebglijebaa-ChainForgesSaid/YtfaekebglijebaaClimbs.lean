/- The contracts of Climb, the program's and the document's. -/
import Derived.Test.YtfaekebglijebaaRSteps
namespace Go.Proofs.Ytfaekebglijebaa
open Go.RowKit
set_option linter.unusedVariables false

theorem n8_small (k : Nat) (h : k < 256) : n8 (UInt8.ofNat k) = (k : Int) := by unfold n8; rw [UInt8.toNat_ofNat', Nat.mod_eq_of_lt (by omega)]
theorem zeros32_length : zeros32.length = 32 := by simp [zeros32]

set_option maxRecDepth 100000 in
set_option maxHeartbeats 2000000 in
theorem climb_bad (key : Int) (c : Int) (x : List UInt8) (a b : Int) (w : World) (hx : x.length = 32) (h : a < 0 ∨ (0 ≤ a ∧ 15 < b) ∨ (0 ≤ a ∧ b ≤ 15 ∧ b < a)) :
    Calls Try.prog 10 #[.int .u32 key, .int .u8 c, .agg (c8 x).toArray, .int .i64 a, .int .i64 b] w fun e w' => e = .returned (.tuple #[.agg (c8 zeros32).toArray, .int .i64 1]) ∧ w.grownBy w' none := by
  have HI := Lib.hid (info_dg zeros32 zeros32_length)
  clear hx
  go_enter Try.func10, Try.ntmps10
  go_wp2_with (refine wp_box (o := ⟨some 7, _, _, _, _, _⟩) rfl 24 (.tmp 2) rfl (c8 x) rfl ?_)
  intro w1 hr hg hz
  clear hz
  have hS1 := ((Own.start w)).new hr hg
  clear hr hg
  go_wp2_with (refine wp_alloc (o := ⟨some 10, _, _, _, _, _⟩) rfl 24 rfl _ alloc_d ?_)
  intro w2 hr hg hz
  clear hz
  have hS2 := hS1.new hr hg
  clear hr hg
  clear hS1
  rcases h with h1 | ⟨h1, h2⟩ | ⟨h1, h2, h3⟩
  · go_wp2_with (refine wp_storeAgg rfl 24 (.tmp 10) (.tmp 24) rfl w1.heap.size 0 24 zd (c8 zeros32) rfl rfl (hS2.row 0 rfl) HI.out (by decide) (one8 _) ?_)
    intro w9 hr hg _
    rw [splice_all (by decide)] at hr
    have hS9 := hS2.setRow 0 rfl hr hg
    clear hS2 hr hg
    go_wp2
    exact bodyPost_ret (v := .tuple #[.agg (c8 zeros32).toArray, .int .i64 1]) (results_rowT rfl _ _ w1.heap.size _ _ rfl (hS9.row 0 rfl) Try.underlying24 rfl HI.out rfl) rfl ⟨rfl, hS9.grown⟩
  · go_wp2_with (refine wp_storeAgg rfl 24 (.tmp 10) (.tmp 24) rfl w1.heap.size 0 24 zd (c8 zeros32) rfl rfl (hS2.row 0 rfl) HI.out (by decide) (one8 _) ?_)
    intro w9 hr hg _
    rw [splice_all (by decide)] at hr
    have hS9 := hS2.setRow 0 rfl hr hg
    clear hS2 hr hg
    go_wp2
    exact bodyPost_ret (v := .tuple #[.agg (c8 zeros32).toArray, .int .i64 1]) (results_rowT rfl _ _ w1.heap.size _ _ rfl (hS9.row 0 rfl) Try.underlying24 rfl HI.out rfl) rfl ⟨rfl, hS9.grown⟩
  · go_wp2_with (refine wp_storeAgg rfl 24 (.tmp 10) (.tmp 24) rfl w1.heap.size 0 24 zd (c8 zeros32) rfl rfl (hS2.row 0 rfl) HI.out (by decide) (one8 _) ?_)
    intro w9 hr hg _
    rw [splice_all (by decide)] at hr
    have hS9 := hS2.setRow 0 rfl hr hg
    clear hS2 hr hg
    go_wp2
    exact bodyPost_ret (v := .tuple #[.agg (c8 zeros32).toArray, .int .i64 1]) (results_rowT rfl _ _ w1.heap.size _ _ rfl (hS9.row 0 rfl) Try.underlying24 rfl HI.out rfl) rfl ⟨rfl, hS9.grown⟩

set_option maxRecDepth 100000 in
set_option maxHeartbeats 2000000 in
theorem climb_any (key : Nat) (c : UInt8) (x : List UInt8) (a b : Nat) (w : World) (hx : x.length = 32) (hk : key < 4294967296) (hab : a ≤ b) (hb : b ≤ 15) :
    Calls Try.prog 10 #[.int .u32 (key : Int), .int .u8 (n8 c), .agg (c8 x).toArray, .int .i64 (a : Int), .int .i64 (b : Int)] w fun e w' => e = .returned (.tuple #[.agg (c8 (climbL key c (b - a) a x)).toArray, .int .i64 0]) ∧ w.grownBy w' none := by
  obtain ⟨k0, k1⟩ := secret_key hk
  have b1 := n8_lo c
  have b2 := n8_hi c
  have HL := Lib.hid hx
  have HK := Lib.hid hk
  have a0 : (0 : Int) ≤ (a : Int) := by omega
  have a1 : (b : Int) ≤ 15 := by omega
  have a2 : (a : Int) ≤ (b : Int) := by omega
  clear hx hk
  have t1 : decide ((a : Int) < 0) = false := by simp
  have t2 : decide ((15 : Int) < (b : Int)) = false := by simp; omega
  have t3 : decide ((b : Int) < (a : Int)) = false := by simp; omega
  have t3' : decide (b < a) = false := by simp; omega
  go_enter Try.func10, Try.ntmps10
  go_wp2_with (refine wp_box (o := ⟨some 7, _, _, _, _, _⟩) rfl 24 (.tmp 2) rfl (c8 x) rfl ?_)
  intro w1 hr hg hz
  clear hz
  have hS1 := ((Own.start w)).new hr hg
  clear hr hg
  go_wp2_with (refine wp_alloc (o := ⟨some 10, _, _, _, _, _⟩) rfl 24 rfl _ alloc_d ?_)
  intro w2 hr hg hz
  clear hz
  have hS2 := hS1.new hr hg
  clear hr hg
  clear hS1
  go_wp2
  go_loopw [12] (fun iv wr => ∃ k : Nat, a ≤ k ∧ k ≤ b ∧ iv = .int .i64 (k : Int) ∧ Own w wr [rowE w1.heap.size 24 zd, rowE w.heap.size 24 (c8 (climbL key c (k - a) a x))]) (fun iv _ => 15 - (intOf iv).toNat)
  case atStart => exact ⟨a, Nat.le_refl _, hab, rfl, by rw [Nat.sub_self]; exact hS2⟩
  case round =>
    clear hS2
    obtain ⟨k, hak, hkb, rfl, hS⟩ := hrel
    obtain ⟨X, hX⟩ : ∃ X, X = climbL key c (k - a) a x := ⟨_, rfl⟩
    have hXl : X.length = 32 := by rw [hX]; exact climbL_length _ _ _ _ _ HL.out
    rw [← hX] at hS
    have HIX := Lib.hid (info_dg X hXl)
    by_cases hlt : k < b
    · have q1 : (k : Int) < (b : Int) := by omega
      have q2 : (k : Int) < 15 := by omega
      have hst := fun W => step_any key c (UInt8.ofNat k) X W hXl HK.out
      obtain ⟨Y, hY⟩ : ∃ Y, Y = stepL key c (UInt8.ofNat k) X := ⟨_, rfl⟩
      have hYl : Y.length = 32 := by rw [hY]; exact stepL_length _ _ _ _
      unfold placeC at hst
      rw [n8_small k (by omega), ← hY] at hst
      have HY := Lib.hid (show Y = climbL key c (k + 1 - a) a x by rw [show k + 1 - a = (k - a) + 1 by omega, climbL_snoc, show a + (k - a) = k by omega, ← hX, hY])
      have HIY := Lib.hid (info_dg Y hYl)
      have HF := Lib.hid (show 0 + (c8 Y).length ≤ (c8 X).length by rw [c8_length, c8_length, hXl, hYl]; decide)
      have HE := Lib.hid (show (c8 Y).length = (c8 X).length by rw [c8_length, c8_length, hXl, hYl])
      clear hX hXl hY hYl
      go_wp2_with (first | (refine wp_load rfl 24 (.tmp 7) rfl Try.underlying24 rfl ⟨w.heap.size, 0, none⟩ rfl (c8 X) HIX.out (row_all (hS.row 1 rfl)) ?_))
      refine (hst _).mono ?_
      rintro e w3 ⟨rfl, hg⟩
      have hS3 := hS.call hg
      clear hg hS
      clear hst
      go_wp2_with (refine wp_storeAgg rfl 24 (.tmp 7) (.tmp 37) rfl w.heap.size 0 24 (c8 X) (c8 Y) rfl rfl (hS3.row 1 rfl) HIY.out HF.out (one8 _) ?_)
      intro w9 hr hg _
      rw [splice_all HE.out] at hr
      have hS9 := hS3.setRow 1 rfl hr hg
      clear hS3 hr hg
      rw [HY.out] at hS9
      go_wp2
      go_roundw
      case rel => exact ⟨k + 1, by omega, by omega, by go_num, hS9⟩
      case measure => simp [intOf] <;> omega
    · obtain rfl : k = b := by omega
      have q1 : ¬ (k : Int) < (k : Int) := by omega
      have HRES := Lib.hid hX
      have HF := Lib.hid (show 0 + (c8 X).length ≤ zd.length by rw [c8_length, hXl]; decide)
      have HE := Lib.hid (show (c8 X).length = zd.length by rw [c8_length, hXl]; decide)
      clear hX hXl hlt hak hkb
      go_wp2_with (first | (refine wp_load rfl 24 (.tmp 7) rfl Try.underlying24 rfl ⟨w.heap.size, 0, none⟩ rfl (c8 X) HIX.out (row_all (hS.row 1 rfl)) ?_) | (refine wp_storeAgg rfl 24 (.tmp 10) (.tmp 38) rfl w1.heap.size 0 24 zd (c8 X) rfl rfl (hS.row 0 rfl) HIX.out HF.out (one8 _) ?_))
      intro w9 hr hg _
      rw [splice_all HE.out] at hr
      have hS9 := hS.setRow 0 rfl hr hg
      clear hS hr hg
      go_wp2
      exact bodyPost_ret (v := .tuple #[.agg (c8 X).toArray, .int .i64 0]) (results_rowT rfl _ _ w1.heap.size _ _ rfl (hS9.row 0 rfl) Try.underlying24 rfl HIX.out rfl) rfl ⟨by rw [HRES.out], hS9.grown⟩

set_option maxRecDepth 100000 in
set_option maxHeartbeats 2000000 in
theorem rclimb_any (key : Nat) (c : UInt8) (x : List UInt8) (a b : Nat) (w : World) (hx : x.length = 32) (hk : key < 4294967296) (hab : a ≤ b) (hb : b ≤ 15) :
    Calls Try.prog 12 #[.int .u32 (key : Int), .int .u8 (n8 c), .agg (c8 x).toArray, .int .i64 (a : Int), .int .i64 (b : Int)] w fun e w' => e = .returned (.agg (c8 (climbL key c (b - a) a x)).toArray) ∧ w.grownBy w' none := by
  obtain ⟨k0, k1⟩ := secret_key hk
  have b1 := n8_lo c
  have b2 := n8_hi c
  have HL := Lib.hid hx
  have HK := Lib.hid hk
  have a0 : (0 : Int) ≤ (a : Int) := by omega
  have a1 : (b : Int) ≤ 15 := by omega
  have a2 : (a : Int) ≤ (b : Int) := by omega
  clear hx hk
  go_enter Try.func12, Try.ntmps12
  go_wp2_with (refine wp_box (o := ⟨some 7, _, _, _, _, _⟩) rfl 22 (.tmp 2) rfl (c8 x) rfl ?_)
  intro w1 hr hg hz
  clear hz
  have hS1 := ((Own.start w)).new hr hg
  clear hr hg
  go_wp2_with (refine wp_alloc (o := ⟨some 10, _, _, _, _, _⟩) rfl 22 rfl _ alloc_d32 ?_)
  intro w2 hr hg hz
  clear hz
  have hS2 := hS1.new hr hg
  clear hr hg
  clear hS1
  go_wp2
  go_loopw [11] (fun iv wr => ∃ k : Nat, a ≤ k ∧ k ≤ b ∧ iv = .int .i64 (k : Int) ∧ Own w wr [rowE w1.heap.size 22 zd, rowE w.heap.size 22 (c8 (climbL key c (k - a) a x))]) (fun iv _ => 15 - (intOf iv).toNat)
  case atStart => exact ⟨a, Nat.le_refl _, hab, rfl, by rw [Nat.sub_self]; exact hS2⟩
  case round =>
    clear hS2
    obtain ⟨k, hak, hkb, rfl, hS⟩ := hrel
    obtain ⟨X, hX⟩ : ∃ X, X = climbL key c (k - a) a x := ⟨_, rfl⟩
    have hXl : X.length = 32 := by rw [hX]; exact climbL_length _ _ _ _ _ HL.out
    rw [← hX] at hS
    have HIX := Lib.hid (info_a32 X hXl)
    by_cases hlt : k < b
    · have q1 : (k : Int) < (b : Int) := by omega
      have q2 : (k : Int) < 15 := by omega
      have hst := fun W => rstep_any key c (UInt8.ofNat k) X W hXl HK.out
      obtain ⟨Y, hY⟩ : ∃ Y, Y = stepL key c (UInt8.ofNat k) X := ⟨_, rfl⟩
      have hYl : Y.length = 32 := by rw [hY]; exact stepL_length _ _ _ _
      rw [n8_small k (by omega), ← hY] at hst
      have HY := Lib.hid (show Y = climbL key c (k + 1 - a) a x by rw [show k + 1 - a = (k - a) + 1 by omega, climbL_snoc, show a + (k - a) = k by omega, ← hX, hY])
      have HIY := Lib.hid (info_a32 Y hYl)
      have HF := Lib.hid (show 0 + (c8 Y).length ≤ (c8 X).length by rw [c8_length, c8_length, hXl, hYl]; decide)
      have HE := Lib.hid (show (c8 Y).length = (c8 X).length by rw [c8_length, c8_length, hXl, hYl])
      clear hX hXl hY hYl
      go_wp2_with (first | (refine wp_load rfl 22 (.tmp 7) rfl Try.underlying22 rfl ⟨w.heap.size, 0, none⟩ rfl (c8 X) HIX.out (row_all (hS.row 1 rfl)) ?_))
      refine (hst _).mono ?_
      rintro e w3 ⟨rfl, hg⟩
      have hS3 := hS.call hg
      clear hg hS
      clear hst
      go_wp2_with (refine wp_storeAgg rfl 22 (.tmp 7) (.tmp 23) rfl w.heap.size 0 22 (c8 X) (c8 Y) rfl rfl (hS3.row 1 rfl) HIY.out HF.out (one8 _) ?_)
      intro w9 hr hg _
      rw [splice_all HE.out] at hr
      have hS9 := hS3.setRow 1 rfl hr hg
      clear hS3 hr hg
      rw [HY.out] at hS9
      go_wp2
      go_roundw
      case rel => exact ⟨k + 1, by omega, by omega, by go_num, hS9⟩
      case measure => simp [intOf] <;> omega
    · obtain rfl : k = b := by omega
      have q1 : ¬ (k : Int) < (k : Int) := by omega
      have HRES := Lib.hid hX
      have HFIT := Lib.hid (show 0 + (c8 X).length ≤ zd.length by rw [c8_length, hXl]; decide)
      have HEQ := Lib.hid (show (c8 X).length = zd.length by rw [c8_length, hXl]; decide)
      clear hX hXl hlt hak hkb
      go_wp2_with (first | (refine wp_load rfl 22 (.tmp 7) rfl Try.underlying22 rfl ⟨w.heap.size, 0, none⟩ rfl (c8 X) HIX.out (row_all (hS.row 1 rfl)) ?_) | (refine wp_storeAgg rfl 22 (.tmp 10) (.tmp 24) rfl w1.heap.size 0 22 zd (c8 (X)) rfl rfl (hS.row 0 rfl) HIX.out HFIT.out (one8 _) ?_))
      intro wz hdr hgz _
      rw [splice_all HEQ.out] at hdr
      have hSz := hS.setRow 0 rfl hdr hgz
      clear hdr hgz hS
      go_wp2
      refine bodyPost_ret (v := .agg (c8 (X)).toArray) (results_cell_row rfl _ _ w1.heap.size _ _ _ _ rfl (hSz.row 0 rfl) Try.underlying22 rfl HIX.out) rfl ⟨(by rw [HRES.out]), hSz.grown⟩
end Go.Proofs.Ytfaekebglijebaa
