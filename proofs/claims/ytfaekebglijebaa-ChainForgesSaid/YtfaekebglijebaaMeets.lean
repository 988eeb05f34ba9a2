/- The contract of the law's meets. -/
import Derived.Test.YtfaekebglijebaaClimbs
import Derived.Test.YtfaekebglijebaaAwake4
import Derived.Test.YtfaekebglijebaaForgeLaw
import Derived.Test.YtfaekebglijebaaDag
namespace Go.Proofs.Ytfaekebglijebaa
open Go.RowKit
set_option linter.unusedVariables false

theorem meetsL_one (key : Nat) (c : UInt8) (X y : List UInt8) (i b : Nat) (h : i < b) :
    meetsL key c X i y b = if i + 1 = b ∧ stepL key c (UInt8.ofNat i) X = y then true else meetsL key c (stepL key c (UInt8.ofNat i) X) (i + 1) y b := by
  have e : climbL key c (b - i) i X = climbL key c (b - (i + 1)) (i + 1) (stepL key c (UInt8.ofNat i) X) := by
    rw [show b - i = (b - (i + 1)) + 1 by omega]; rfl
  unfold meetsL
  rw [if_pos h, e]
  by_cases h1 : i + 1 < b
  · rw [if_pos h1, if_neg (by omega : ¬ (i + 1 = b ∧ _))]
  · obtain rfl : i + 1 = b := by omega
    rw [if_neg h1, Nat.sub_self]
    simp [climbL]
theorem meetsL_two (key : Nat) (c : UInt8) (X Y : List UInt8) (i j : Nat) (h : j < i) : meetsL key c X i Y j = meetsL key c X i (stepL key c (UInt8.ofNat j) Y) (j + 1) := by
  unfold meetsL
  rw [if_neg (by omega), if_neg (by omega), show i - j = (i - (j + 1)) + 1 by omega]
  rfl
theorem meetsL_three (key : Nat) (c : UInt8) (X Y : List UInt8) (i : Nat) : meetsL key c X i Y i = ph3 key c (15 - i) i X Y := by
  unfold meetsL
  rw [if_neg (by omega), Nat.sub_self]
  rfl
theorem ph3_one (key : Nat) (c : UInt8) (X Y : List UInt8) (h : Nat) (hh : h < 15) (hne : X ≠ Y) :
    ph3 key c (15 - h) h X Y = if stepL key c (UInt8.ofNat h) X = stepL key c (UInt8.ofNat h) Y then true else ph3 key c (15 - (h + 1)) (h + 1) (stepL key c (UInt8.ofNat h) X) (stepL key c (UInt8.ofNat h) Y) := by
  rw [show 15 - h = (15 - (h + 1)) + 1 by omega]
  conv => lhs; unfold ph3
  rw [if_neg hne]
theorem ph3_none (key : Nat) (c : UInt8) (X Y : List UInt8) (h : Nat) (hh : ¬ h < 15 ∨ X = Y) : ph3 key c (15 - h) h X Y = false := by
  rcases Nat.lt_or_ge h 15 with h1 | h1
  · have h2 := hh.resolve_left (by omega)
    rw [show 15 - h = (15 - (h + 1)) + 1 by omega]
    unfold ph3
    rw [if_pos h2]
  · rw [show 15 - h = 0 by omega]; rfl

set_option maxRecDepth 100000 in
set_option maxHeartbeats 16000000 in
theorem meets_any (key : Nat) (c : UInt8) (x y : List UInt8) (a b : Nat) (w : World) (hx : x.length = 32) (hy : y.length = 32) (hk : key < 4294967296) (ha : a ≤ 15) (hb : b ≤ 15) :
    Calls Try.prog 27 #[.int .u32 (key : Int), .int .u8 (n8 c), .agg (c8 x).toArray, .int .i64 (a : Int), .agg (c8 y).toArray, .int .i64 (b : Int)] w fun e w' => e = .returned (.bool (meetsL key c x a y b)) ∧ w.grownBy w' none := by
  obtain ⟨k0, k1⟩ := secret_key hk
  have b1 := n8_lo c
  have b2 := n8_hi c
  have HLY := Lib.hid hy
  have HK := Lib.hid hk
  have HB := Lib.hid hb
  have x0 : (0 : Int) ≤ (a : Int) := by omega
  have x1 : (b : Int) ≤ 15 := by omega
  have x2 : (0 : Int) ≤ (b : Int) := by omega
  obtain ⟨R, hR⟩ : ∃ R, R = meetsL key c x a y b := ⟨_, rfl⟩
  rw [← hR]
  have HR0 := Lib.hid hR
  clear hk hy hR
  go_enter Try.func27, Try.ntmps27
  go_wp2_with (refine wp_box (o := ⟨some 8, _, _, _, _, _⟩) rfl 22 (.tmp 2) rfl (c8 x) rfl ?_)
  intro w1 hr hg hz
  clear hz
  have hS1 := ((Own.start w)).new hr hg
  clear hr hg
  go_wp2_with (refine wp_box (o := ⟨some 10, _, _, _, _, _⟩) rfl 22 (.tmp 4) rfl (c8 y) rfl ?_)
  intro w2 hr hg hz
  clear hz
  have hS2 := (hS1).new hr hg
  clear hr hg
  clear hS1
  go_wp2
  go_loopw [3] (fun iv wr => ∃ (i : Nat) (X : List UInt8), i ≤ 15 ∧ X.length = 32 ∧ iv = .int .i64 (i : Int) ∧ R = meetsL key c X i y b ∧ Own w wr [rowE w1.heap.size 22 (c8 y), rowE w.heap.size 22 (c8 X)]) (fun iv _ => 15 - (intOf iv).toNat)
  case atStart => exact ⟨a, x, ha, hx, rfl, HR0.out, hS2⟩
  case round =>
    clear hS2 HR0 hx ha
    obtain ⟨i, X, hi, hXl, rfl, hR, hS⟩ := hrel
    have i0 : (0 : Int) ≤ (i : Int) := by omega
    by_cases hlt : i < b
    · have q1 : (i : Int) < (b : Int) := by omega
      have q2 : (i : Int) < 15 := by omega
      rw [meetsL_one key c X y i b hlt] at hR
      have hst := fun W => rstep_any key c (UInt8.ofNat i) X W hXl HK.out
      have HIX := Lib.hid (info_a32 X hXl)
      obtain ⟨Y, hY⟩ : ∃ Y, Y = stepL key c (UInt8.ofNat i) X := ⟨_, rfl⟩
      have hYl : Y.length = 32 := by rw [hY]; exact stepL_length _ _ _ _
      rw [n8_small i (by omega), ← hY] at hst
      rw [← hY] at hR
      have HIY := Lib.hid (info_a32 Y hYl)
      have HIB := Lib.hid (info_a32 y HLY.out)
      have HF := Lib.hid (show 0 + (c8 Y).length ≤ (c8 X).length by rw [c8_length, c8_length, hXl, hYl]; decide)
      have HE := Lib.hid (show (c8 Y).length = (c8 X).length by rw [c8_length, c8_length, hXl, hYl])
      have heq := fun W => eq_a32 W Y y hYl HLY.out
      have HI := Lib.hid hi
      have HY := Lib.hid hYl
      have HLT := Lib.hid hlt
      have HRR := Lib.hid hR
      clear hXl hY hYl hi hR
      go_wp2_with (first | (refine wp_load rfl 22 (.tmp 8) rfl Try.underlying22 rfl ⟨w.heap.size, 0, none⟩ rfl (c8 X) HIX.out (row_all (hS.row 1 rfl)) ?_))
      refine (hst _).mono ?_
      rintro e w3 ⟨rfl, hg⟩
      have hS3 := hS.call hg
      clear hg hS
      clear hst
      go_wp2_with (refine wp_storeAgg rfl 22 (.tmp 8) (.tmp 23) rfl w.heap.size 0 22 (c8 X) (c8 Y) rfl rfl (hS3.row 1 rfl) HIY.out HF.out (one8 _) ?_)
      intro w9 hr hg hz
      clear hz
      rw [splice_all HE.out] at hr
      have hS9 := hS3.setRow 1 rfl hr hg
      clear hS3 hr hg
      by_cases hb1 : i + 1 = b
      · have t1 : decide ((i : Int) + 1 = (b : Int)) = true := by simp; omega
        have t1b : ((i : Int) + 1 == (b : Int)) = true := by simp; omega
        have HT1 := Lib.hid hb1
        by_cases he : Y = y
        · rw [decide_eq_true he] at heq
          have HR := Lib.hid (show R = true by rw [HRR.out, if_pos ⟨hb1, he⟩])
          clear hb1 he hlt
          go_wp2_with (first | (refine wp_load rfl 22 (.tmp 8) rfl Try.underlying22 rfl ⟨w.heap.size, 0, none⟩ rfl (c8 Y) HIY.out (row_all (hS9.row 1 rfl)) ?_) | (refine wp_load rfl 22 (.tmp 10) rfl Try.underlying22 rfl ⟨w1.heap.size, 0, none⟩ rfl (c8 y) HIB.out (row_all (hS9.row 0 rfl)) ?_))
          go_ret
          exact ⟨by rw [HR.out] <;> rfl, hS9.grown⟩
        · rw [decide_eq_false he] at heq
          have HR := Lib.hid (show R = meetsL key c Y (i + 1) y b by rw [HRR.out, if_neg (fun h => he h.2)])
          clear hb1 he hlt
          go_wp2_with (first | (refine wp_load rfl 22 (.tmp 8) rfl Try.underlying22 rfl ⟨w.heap.size, 0, none⟩ rfl (c8 Y) HIY.out (row_all (hS9.row 1 rfl)) ?_) | (refine wp_load rfl 22 (.tmp 10) rfl Try.underlying22 rfl ⟨w1.heap.size, 0, none⟩ rfl (c8 y) HIB.out (row_all (hS9.row 0 rfl)) ?_))
          go_roundw
          case rel => exact ⟨i + 1, Y, by have := HLT.out; have := HB.out; omega, HY.out, by go_num, HR.out, hS9⟩
          case measure => simp [intOf] <;> omega
      · have t1 : decide ((i : Int) + 1 = (b : Int)) = false := by simp; omega
        have t1b : ((i : Int) + 1 == (b : Int)) = false := by simp; omega
        have HR := Lib.hid (show R = meetsL key c Y (i + 1) y b by rw [HRR.out, if_neg (fun h => hb1 h.1)])
        clear hb1 hlt heq
        go_wp2_with fail
        go_roundw
        case rel => exact ⟨i + 1, Y, by have := HLT.out; have := HB.out; omega, HY.out, by go_num, HR.out, hS9⟩
        case measure => simp [intOf] <;> omega
    · have q1 : (b : Int) ≤ (i : Int) := by omega
      have d1 : decide ((i : Int) < (b : Int)) = false := by simp; omega
      have d2 : decide (i < b) = false := by simp; omega
      have HBI := Lib.hid (show b ≤ i by omega)
      have HI := Lib.hid hi
      have HX := Lib.hid hXl
      have HR1 := Lib.hid hR
      clear hlt hi hXl hR
      go_wp2
      go_loopw [5] (fun iv wr => ∃ (j : Nat) (Y : List UInt8), j ≤ i ∧ Y.length = 32 ∧ iv = .int .i64 (j : Int) ∧ R = meetsL key c X i Y j ∧ Own w wr [rowE w1.heap.size 22 (c8 Y), rowE w.heap.size 22 (c8 X)]) (fun iv _ => 15 - (intOf iv).toNat)
      case atStart => exact ⟨b, y, HBI.out, HLY.out, rfl, HR1.out, hS⟩
      case round =>
        clear hS HR1
        obtain ⟨j, Y, hj, hYl, rfl, hR, hS⟩ := hrel
        have i15 := HI.out
        by_cases hlt : j < i
        · have q2 : (j : Int) < (i : Int) := by omega
          have q3 : (j : Int) < 15 := by omega
          rw [meetsL_two key c X Y i j hlt] at hR
          have hst := fun W => rstep_any key c (UInt8.ofNat j) Y W hYl HK.out
          have HIY := Lib.hid (info_a32 Y hYl)
          obtain ⟨Z, hZ⟩ : ∃ Z, Z = stepL key c (UInt8.ofNat j) Y := ⟨_, rfl⟩
          have hZl : Z.length = 32 := by rw [hZ]; exact stepL_length _ _ _ _
          rw [n8_small j (by omega), ← hZ] at hst
          rw [← hZ] at hR
          have HIZ := Lib.hid (info_a32 Z hZl)
          have HF := Lib.hid (show 0 + (c8 Z).length ≤ (c8 Y).length by rw [c8_length, c8_length, hYl, hZl]; decide)
          have HE := Lib.hid (show (c8 Z).length = (c8 Y).length by rw [c8_length, c8_length, hYl, hZl])
          have HLT := Lib.hid hlt
          have HZ := Lib.hid hZl
          have HR := Lib.hid hR
          clear hYl hZ hZl hR hlt i15
          go_wp2_with (first | (refine wp_load rfl 22 (.tmp 10) rfl Try.underlying22 rfl ⟨w1.heap.size, 0, none⟩ rfl (c8 Y) HIY.out (row_all (hS.row 0 rfl)) ?_))
          refine (hst _).mono ?_
          rintro e w3 ⟨rfl, hg⟩
          have hS3 := hS.call hg
          clear hg hS
          clear hst
          go_wp2_with (refine wp_storeAgg rfl 22 (.tmp 10) (.tmp 43) rfl w1.heap.size 0 22 (c8 Y) (c8 Z) rfl rfl (hS3.row 0 rfl) HIZ.out HF.out (one8 _) ?_)
          intro w9 hr hg hz
          clear hz
          rw [splice_all HE.out] at hr
          have hS9 := hS3.setRow 0 rfl hr hg
          clear hS3 hr hg
          go_wp2
          go_roundw
          case rel => exact ⟨j + 1, Z, by have := HLT.out; omega, HZ.out, by go_num, HR.out, hS9⟩
          case measure => have := HLT.out; have := HI.out; simp [intOf] <;> omega
        · obtain rfl : j = i := by omega
          have q2 : ¬ (j : Int) < (j : Int) := by omega
          have d3 : decide ((j : Int) < (j : Int)) = false := by simp
          have d4 : decide (j < j) = false := by simp
          rw [meetsL_three] at hR
          clear hlt hj
          have HX' := HX
          have HY := Lib.hid hYl
          have HR2 := Lib.hid hR
          clear hYl hR
          go_wp2
          go_loopw [3] (fun iv wr => ∃ (h : Nat) (X Y : List UInt8), h ≤ 15 ∧ X.length = 32 ∧ Y.length = 32 ∧ iv = .int .i64 (h : Int) ∧ R = ph3 key c (15 - h) h X Y ∧ Own w wr [rowE w1.heap.size 22 (c8 Y), rowE w.heap.size 22 (c8 X)]) (fun iv _ => 15 - (intOf iv).toNat)
          case atStart => exact ⟨j, X, Y, HI.out, HX.out, HY.out, rfl, HR2.out, hS⟩
          case round =>
            clear hS HR2 HX HY HX' HI HBI i15 q1 q2
            clear i0
            rename_i jj
            obtain ⟨h, X, Y, hh, hXl, hYl, rfl, hR, hS⟩ := hrel
            have h0 : (0 : Int) ≤ (h : Int) := by omega
            have HIX := Lib.hid (info_a32 X hXl)
            have HIY := Lib.hid (info_a32 Y hYl)
            have heq := fun W => eq_a32 W X Y hXl hYl
            by_cases hXY : X = Y
            · rw [decide_eq_true hXY] at heq
              have HR := Lib.hid (show R = false by rw [hR, ph3_none _ _ _ _ _ (.inr hXY)])
              clear hR hXl hYl hXY hh
              go_wp2_with (first | (refine wp_load rfl 22 (.tmp 8) rfl Try.underlying22 rfl ⟨w.heap.size, 0, none⟩ rfl (c8 X) HIX.out (row_all (hS.row 1 rfl)) ?_) | (refine wp_load rfl 22 (.tmp 10) rfl Try.underlying22 rfl ⟨w1.heap.size, 0, none⟩ rfl (c8 Y) HIY.out (row_all (hS.row 0 rfl)) ?_))
              go_ret
              exact ⟨by rw [HR.out] <;> rfl, hS.grown⟩
            · rw [decide_eq_false hXY] at heq
              by_cases hlt : h < 15
              · have q3 : (h : Int) < 15 := by omega
                rw [ph3_one _ _ _ _ _ hlt hXY] at hR
                have hst1 := fun W => rstep_any key c (UInt8.ofNat h) X W hXl HK.out
                have hst2 := fun W => rstep_any key c (UInt8.ofNat h) Y W hYl HK.out
                obtain ⟨U, hU⟩ : ∃ U, U = stepL key c (UInt8.ofNat h) X := ⟨_, rfl⟩
                have hUl : U.length = 32 := by rw [hU]; exact stepL_length _ _ _ _
                obtain ⟨V, hV⟩ : ∃ V, V = stepL key c (UInt8.ofNat h) Y := ⟨_, rfl⟩
                have hVl : V.length = 32 := by rw [hV]; exact stepL_length _ _ _ _
                rw [n8_small h (by omega), ← hU] at hst1
                rw [n8_small h (by omega), ← hV] at hst2
                rw [← hU, ← hV] at hR
                have HIU := Lib.hid (info_a32 U hUl)
                have HIV := Lib.hid (info_a32 V hVl)
                have HFU := Lib.hid (show 0 + (c8 U).length ≤ zd.length by rw [c8_length, hUl]; decide)
                have HEU := Lib.hid (show (c8 U).length = zd.length by rw [c8_length, hUl]; decide)
                have HFV := Lib.hid (show 0 + (c8 V).length ≤ zd.length by rw [c8_length, hVl]; decide)
                have HEV := Lib.hid (show (c8 V).length = zd.length by rw [c8_length, hVl]; decide)
                have HFX := Lib.hid (show 0 + (c8 U).length ≤ (c8 X).length by rw [c8_length, c8_length, hUl, hXl]; decide)
                have HEX := Lib.hid (show (c8 U).length = (c8 X).length by rw [c8_length, c8_length, hUl, hXl])
                have HFY := Lib.hid (show 0 + (c8 V).length ≤ (c8 Y).length by rw [c8_length, c8_length, hVl, hYl]; decide)
                have HEY := Lib.hid (show (c8 V).length = (c8 Y).length by rw [c8_length, c8_length, hVl, hYl])
                have heq2 := fun W => eq_a32 W U V hUl hVl
                have HU := Lib.hid hUl
                have HV := Lib.hid hVl
                have HLT := Lib.hid hlt
                have HR := Lib.hid hR
                clear hU hUl hV hVl hR hlt hXY hXl hYl hh
                go_wp2_with (first | (refine wp_load rfl 22 (.tmp 8) rfl Try.underlying22 rfl ⟨w.heap.size, 0, none⟩ rfl (c8 X) HIX.out (row_all (hS.row 1 rfl)) ?_) | (refine wp_load rfl 22 (.tmp 10) rfl Try.underlying22 rfl ⟨w1.heap.size, 0, none⟩ rfl (c8 Y) HIY.out (row_all (hS.row 0 rfl)) ?_))
                clear heq
                have hS1 := hS.drew
                clear hS
                refine wp_region_dag (w0 := w) (L0 := [rowE w1.heap.size 22 (c8 Y), rowE w.heap.size 22 (c8 X)]) (fun _ => true) [0, 1, 2, 3, 4, 6, 7, 8, 9, 10] [(5, 58, .val (.agg (c8 U).toArray)), (11, 64, .val (.agg (c8 V).toArray)), (12, 13, .new 22 (zd)), (13, 14, .new 22 (zd))] [14, 15] (by kernel_rfl) (by simp) (by simp) hS1 (by kernel_rfl) ?_
                simp only [List.map_cons, List.map_nil]
                iterate 4 (refine wpMix_step rfl (fun K hK => ?_); go_simp; (try go_bits); with_reducible refine hK _ ?_; clear hK K)
                refine wpMix_pureW (.agg (c8 X).toArray) rfl rfl (fun W hW => run_load_op 22 (.tmp 8) rfl Try.underlying22 rfl ⟨w.heap.size, 0, none⟩ rfl _ HIX.out (row_all (hW.row 1 rfl))) ?_
                iterate 4 (refine wpMix_step rfl (fun K hK => ?_); go_simp; (try go_bits); with_reducible refine hK _ ?_; clear hK K)
                refine wpMix_pureW (.agg (c8 Y).toArray) rfl rfl (fun W hW => run_load_op 22 (.tmp 10) rfl Try.underlying22 rfl ⟨w1.heap.size, 0, none⟩ rfl _ HIY.out (row_all (hW.row 0 rfl))) ?_
                change DagGoal _ _ _ _ _ _ _ _ _ _ _
                refine ⟨⟨?_, ?_, ?_, ?_, trivial⟩, ?_⟩
                · refine ⟨_, rfl, rfl, fun f W K hS hK => ?_⟩
                  simp only [putsL]
                  go_wp2_with fail
                  refine (hst1 _).mono ?_
                  rintro e w' ⟨rfl, hg⟩
                  go_wp2_with fail
                  exact hK _ _ (by kernel_rfl) hg
                · refine ⟨_, rfl, rfl, fun f W K hS hK => ?_⟩
                  simp only [putsL]
                  go_wp2_with fail
                  refine (hst2 _).mono ?_
                  rintro e w' ⟨rfl, hg⟩
                  go_wp2_with fail
                  exact hK _ _ (by kernel_rfl) hg
                · refine ⟨_, rfl, rfl, fun f W K hS hK => ?_⟩
                  simp only [putsL]
                  go_wp2_with (refine wp_alloc (o := ⟨some 13, _, _, _, _, _⟩) rfl 22 rfl _ alloc_d32 ?_)
                  intro w' hr hg hz
                  go_wp2_with fail
                  exact hK _ _ (by kernel_rfl) hr hg
                · refine ⟨_, rfl, rfl, fun f W K hS hK => ?_⟩
                  simp only [putsL]
                  go_wp2_with (refine wp_alloc (o := ⟨some 14, _, _, _, _, _⟩) rfl 22 rfl _ alloc_d32 ?_)
                  intro w' hr hg hz
                  go_wp2_with fail
                  exact hK _ _ (by kernel_rfl) hr hg
                · intro g W hW hD
                  have hD0 : Own w W [rowE (g 13) 22 zd, rowE (g 14) 22 zd, rowE w1.heap.size 22 (c8 Y), rowE w.heap.size 22 (c8 X)] := hD
                  clear hD hS1 hst1 hst2
                  simp only [putsS, List.map_cons, List.map_nil]
                  go_simp
                  refine wpMix_loudW _ rfl rfl ?_
                  go_wp2_with (refine wp_storeAgg rfl 22 (.tmp 13) (.tmp 58) rfl (g 13) 0 22 zd (c8 U) rfl rfl (hD0.row 0 rfl) HIU.out HFU.out (one8 _) ?_)
                  intro wa hr hg hz
                  clear hz
                  rw [splice_all HEU.out] at hr
                  have hD1 := hD0.setRow 0 rfl hr hg
                  clear hr hg hD0
                  go_wp2_with fail
                  refine wpMix_next' (fun _ => hD1.tail.tail) ?_
                  refine wpMix_loudW _ rfl rfl ?_
                  go_wp2_with (refine wp_storeAgg rfl 22 (.tmp 14) (.tmp 64) rfl (g 14) 0 22 zd (c8 V) rfl rfl (hD1.row 1 rfl) HIV.out HFV.out (one8 _) ?_)
                  intro wb hr hg hz
                  clear hz
                  rw [splice_all HEV.out] at hr
                  have hD2 := hD1.setRow 1 rfl hr hg
                  clear hr hg hD1
                  go_wp2_with fail
                  refine wpMix_next' (fun _ => hD2.tail.tail) ?_
                  unfold wpMix
                  obtain ⟨gu, hgu⟩ : ∃ gu, gu = g 13 := ⟨_, rfl⟩
                  obtain ⟨gv, hgv⟩ : ∃ gv, gv = g 14 := ⟨_, rfl⟩
                  rw [← hgu, ← hgv] at hD2 ⊢
                  clear hgu hgv hW
                  by_cases hUV : U = V
                  · rw [decide_eq_true hUV] at heq2
                    have HR' := Lib.hid (show R = true by rw [HR.out, if_pos hUV])
                    clear hUV
                    go_wp2_with (first | (refine wp_load rfl 22 (.tmp 13) rfl Try.underlying22 rfl ⟨gu, 0, none⟩ rfl (c8 U) HIU.out (row_all (hD2.row 0 rfl)) ?_) | (refine wp_load rfl 22 (.tmp 14) rfl Try.underlying22 rfl ⟨gv, 0, none⟩ rfl (c8 V) HIV.out (row_all (hD2.row 1 rfl)) ?_))
                    go_ret
                    exact ⟨by rw [HR'.out] <;> rfl, hD2.grown⟩
                  · rw [decide_eq_false hUV] at heq2
                    have HR' := Lib.hid (show R = ph3 key c (15 - (h + 1)) (h + 1) U V by rw [HR.out, if_neg hUV])
                    clear hUV
                    go_wp2_with (first | (refine wp_load rfl 22 (.tmp 13) rfl Try.underlying22 rfl ⟨gu, 0, none⟩ rfl (c8 U) HIU.out (row_all (hD2.row 0 rfl)) ?_) | (refine wp_load rfl 22 (.tmp 14) rfl Try.underlying22 rfl ⟨gv, 0, none⟩ rfl (c8 V) HIV.out (row_all (hD2.row 1 rfl)) ?_))
                    clear heq2
                    have hE := hD2.drew
                    clear hD2
                    refine wp_region_mixC (fun W => Own w W [rowE gu 22 (c8 U), rowE gv 22 (c8 V)]) (fun _ => true) [(0, true), (1, true), (2, false), (3, false)] (by kernel_rfl) (by kernel_rfl) (hE.sub (by simp)) ?_
                    refine wpMix_pureW (.agg (c8 U).toArray) rfl rfl (fun W hW => run_load_op 22 (.tmp 13) rfl Try.underlying22 rfl ⟨gu, 0, none⟩ rfl _ HIU.out (row_all (hW.row 0 rfl))) ?_
                    refine wpMix_pureW (.agg (c8 V).toArray) rfl rfl (fun W hW => run_load_op 22 (.tmp 14) rfl Try.underlying22 rfl ⟨gv, 0, none⟩ rfl _ HIV.out (row_all (hW.row 1 rfl))) ?_
                    refine wpMix_loudW _ rfl rfl ?_
                    go_wp2_with (refine wp_storeAgg rfl 22 (.tmp 8) (.tmp 68) rfl w.heap.size 0 22 (c8 X) (c8 U) rfl rfl (hE.row 3 rfl) HIU.out HFX.out (one8 _) ?_)
                    intro wc hr hg hz
                    clear hz
                    rw [splice_all HEX.out] at hr
                    have hE1 := hE.setRow 3 rfl hr hg
                    clear hr hg hE
                    go_wp2_with fail
                    refine wpMix_next' (fun _ => hE1.sub (by simp)) ?_
                    refine wpMix_loudW _ rfl rfl ?_
                    go_wp2_with (refine wp_storeAgg rfl 22 (.tmp 10) (.tmp 69) rfl w1.heap.size 0 22 (c8 Y) (c8 V) rfl rfl (hE1.row 2 rfl) HIV.out HFY.out (one8 _) ?_)
                    intro wd hr hg hz
                    clear hz
                    rw [splice_all HEY.out] at hr
                    have hE2 := hE1.setRow 2 rfl hr hg
                    clear hr hg hE1
                    go_wp2_with fail
                    refine wpMix_next' (fun _ => hE2.sub (by simp)) ?_
                    unfold wpMix
                    have hE3 : Own w wd [rowE w1.heap.size 22 (c8 V), rowE w.heap.size 22 (c8 U)] := hE2.tail.tail
                    clear hE2
                    go_wp2
                    go_roundw
                    case rel => exact ⟨h + 1, U, V, by have := HLT.out; omega, HU.out, HV.out, by go_num, HR'.out, hE3⟩
                    case measure => have := HLT.out; simp [intOf] <;> omega
              · have q3 : (15 : Int) ≤ (h : Int) := by omega
                have HR := Lib.hid (show R = false by rw [hR, ph3_none _ _ _ _ _ (.inl hlt)])
                clear hR hXl hYl hXY hh hlt
                go_wp2_with (first | (refine wp_load rfl 22 (.tmp 8) rfl Try.underlying22 rfl ⟨w.heap.size, 0, none⟩ rfl (c8 X) HIX.out (row_all (hS.row 1 rfl)) ?_) | (refine wp_load rfl 22 (.tmp 10) rfl Try.underlying22 rfl ⟨w1.heap.size, 0, none⟩ rfl (c8 Y) HIY.out (row_all (hS.row 0 rfl)) ?_))
                go_ret
                exact ⟨by rw [HR.out] <;> rfl, hS.grown⟩
end Go.Proofs.Ytfaekebglijebaa
