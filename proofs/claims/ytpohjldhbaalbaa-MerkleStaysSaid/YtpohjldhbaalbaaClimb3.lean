/- The contracts of climb and Check. -/
import Derived.Test.YtpohjldhbaalbaaPath3
import Derived.Test.YtpohjldhbaalbaaClimbLaw
namespace Go.Proofs.Ytpohjldhbaalbaa
set_option linter.unusedVariables false
set_option linter.unusedSimpArgs false
set_option linter.unusedSectionVars false
open Go.RowKit
set_option linter.unusedVariables false

def clV : Option (List UInt8 × Way) → List UInt8 × Bool
  | some (x, []) => (x, true)
  | some (x, _ :: _) => (x, false)
  | none => (zeros32, false)
theorem z32lit : (c8 zeros32).toArray = #[Value.int .u8 0, Value.int .u8 0, Value.int .u8 0, Value.int .u8 0, Value.int .u8 0, Value.int .u8 0, Value.int .u8 0, Value.int .u8 0, Value.int .u8 0, Value.int .u8 0, Value.int .u8 0, Value.int .u8 0, Value.int .u8 0, Value.int .u8 0, Value.int .u8 0, Value.int .u8 0, Value.int .u8 0, Value.int .u8 0, Value.int .u8 0, Value.int .u8 0, Value.int .u8 0, Value.int .u8 0, Value.int .u8 0, Value.int .u8 0, Value.int .u8 0, Value.int .u8 0, Value.int .u8 0, Value.int .u8 0, Value.int .u8 0, Value.int .u8 0, Value.int .u8 0, Value.int .u8 0] := rfl

set_option maxRecDepth 100000 in
set_option maxHeartbeats 16000000 in
theorem climb_core (w : World) (n i : Nat) (d V1 : List UInt8) (V2 : Bool) (A : Option Addr) (c m : Nat) (way : Way) (HD : Hid (d.length = 32)) (HW : Hid (Rows32 w A c way)) (HC : Hid (c ≤ 9223372036854775807)) (HM : Hid (m = way.length))
    (n1 : (1 : Int) ≤ (n : Int)) (n2 : (n : Int) ≤ 9223372036854775807) (HI : Hid (i < n)) (HV : Hid (clV (climbR (n - 1) i d way) = (V1, V2))) :
    Calls Try.prog 49 #[.int .i64 (n : Int), .int .i64 (i : Int), .agg (c8 d).toArray, .slice A m c] w fun e w' => e = .returned (.tuple #[.agg (c8 V1).toArray, .bool V2]) ∧ w.grownBy w' none := by
  have ID := Lib.hid (info_dg d HD.out)
  have FD := Lib.hid (show 0 + (c8 d).length ≤ zd.length by rw [c8_length, HD.out]; decide)
  have ED := Lib.hid (show (c8 d).length = zd.length by rw [c8_length, HD.out]; decide)
  obtain ⟨l0, hl0⟩ : ∃ l0, l0 = n - 1 := ⟨_, rfl⟩
  have e0 : (n : Int) - 1 = (l0 : Int) := by omega
  have HL0 := Lib.hid hl0
  clear hl0
  go_enter Try.func49, Try.ntmps49
  go_wp2_with (refine wp_box (o := ⟨some 6, _, _, _, _, _⟩) rfl 27 (.tmp 2) rfl (c8 d) rfl ?_)
  intro w1 hr hg hz
  clear hz
  have hS1 := ((Own.start w)).new hr hg
  clear hr hg
  go_wp2_with (refine wp_alloc (o := ⟨some 8, _, _, _, _, _⟩) rfl 27 rfl _ alloc_d ?_)
  intro w2 hr hg hz
  clear hz
  have hS2 := hS1.new hr hg
  clear hr hg
  clear hS1
  go_wp2_with (first | (refine wp_load rfl 27 (.tmp 6) rfl Try.underlying27 rfl ⟨w.heap.size, 0, none⟩ rfl (c8 d) ID.out (row_all (hS2.row 1 rfl)) ?_) | (refine wp_alloc (o := ⟨some 11, _, _, _, _, _⟩) rfl 27 rfl _ alloc_d ?_))
  intro w3 hr hg hz
  clear hz
  have hS3 := hS2.new hr hg
  clear hr hg hS2
  go_wp2_with (refine wp_storeAgg rfl 27 (.tmp 11) (.tmp 14) rfl w2.heap.size 0 27 zd (c8 d) rfl rfl (hS3.row 0 rfl) ID.out FD.out (one8 _) ?_)
  intro w4 hr hg hz
  clear hz
  rw [splice_all ED.out] at hr
  have hS4 := hS3.setRow 0 rfl hr hg
  clear hS3 hr hg
  go_wp2
  clear ID FD ED
  go_loopw [1, 3, 10] (fun iv wv lv wr => ∃ (last i k : Nat) (D : List UInt8) (B : Option Addr) (e : Nat) (W' : Way), iv = .int .i64 (i : Int) ∧ lv = .int .i64 (last : Int) ∧ wv = .slice B k e ∧ k = W'.length ∧ D.length = 32 ∧ Rows32 w B e W' ∧ e ≤ 9223372036854775807 ∧ i ≤ last ∧ last ≤ 9223372036854775807 ∧
    Hid (clV (climbR last i D W') = (V1, V2)) ∧ Own w wr [rowE w2.heap.size 27 (c8 D), rowE w1.heap.size 27 zd, rowE w.heap.size 27 (c8 d)]) (fun _ _ lv _ => (intOf lv).toNat)
  case atStart => exact ⟨l0, i, m, d, A, c, way, rfl, rfl, rfl, HM.out, HD.out, HW.out, HC.out, by have := HI.out; have := HL0.out; omega, by omega, Lib.hid (by rw [HL0.out]; exact HV.out), hS4⟩
  case round =>
    clear hS4 HM HW HC HI HL0 HV e0 n1 n2 HD
    obtain ⟨last, i, k, D, B, e, W', rfl, rfl, rfl, hk, hDl, hW, he, hil, hlast, HV, hS⟩ := hrel
    have HDL := Lib.hid hDl
    have ID := Lib.hid (info_dg D hDl)
    have s0 : (0 : Int) ≤ (last : Int) := by omega
    have s1 : (last : Int) ≤ 9223372036854775807 := by omega
    have s2 : (0 : Int) ≤ (i : Int) := by omega
    have s3 : (i : Int) ≤ (last : Int) := by omega
    have HE := Lib.hid he
    have HIL := Lib.hid hil
    have HLAST := Lib.hid hlast
    by_cases h0 : last = 0
    · subst h0
      have FD := Lib.hid (show 0 + (c8 D).length ≤ zd.length by rw [c8_length, hDl]; decide)
      have ED := Lib.hid (show (c8 D).length = zd.length by rw [c8_length, hDl]; decide)
      by_cases hk0 : k = 0
      · have hWn : W' = [] := List.eq_nil_of_length_eq_zero (by omega)
        have hv := HV.out
        rw [climbR_zero, hWn] at hv
        injection hv with hv1 hv2
        subst hk0
        subst hv1
        subst hv2
        clear hk hDl hW he hil hlast HV hWn
        go_wp2_with (first | (refine wp_load rfl 27 (.tmp 11) rfl Try.underlying27 rfl ⟨w2.heap.size, 0, none⟩ rfl (c8 D) ID.out (row_all (hS.row 0 rfl)) ?_) | (refine wp_storeAgg rfl 27 (.tmp 8) (.tmp 48) rfl w1.heap.size 0 27 zd (c8 D) rfl rfl (hS.row 1 rfl) ID.out FD.out (one8 _) ?_))
        intro w9 hr hg hz
        clear hz
        rw [splice_all ED.out] at hr
        have hS9 := hS.setRow 1 rfl hr hg
        clear hS hr hg
        go_wp2
        exact bodyPost_ret (v := .tuple #[.agg (c8 D).toArray, .bool true]) (results_rowT rfl _ _ w1.heap.size _ _ rfl (hS9.row 1 rfl) Try.underlying27 rfl ID.out rfl) rfl ⟨rfl, hS9.grown⟩
      · have k1 : (1 : Int) ≤ (k : Int) := by omega
        have k2 : decide ((k : Int) = 0) = false := by simp; omega
        have k3 : ¬ k = 0 := hk0
        have k4 : ((k : Int) == 0) = false := by simp; omega
        obtain ⟨x, r, hxr⟩ : ∃ x r, W' = x :: r := by
          cases hW'c : W' with
          | nil => rw [hW'c] at hk; simp at hk; omega
          | cons x r => exact ⟨x, r, rfl⟩
        have hv := HV.out
        rw [climbR_zero, hxr] at hv
        injection hv with hv1 hv2
        subst hv1
        subst hv2
        clear hk hDl hW he hil hlast HV hxr hk0
        go_wp2_with (first | (refine wp_load rfl 27 (.tmp 11) rfl Try.underlying27 rfl ⟨w2.heap.size, 0, none⟩ rfl (c8 D) ID.out (row_all (hS.row 0 rfl)) ?_) | (refine wp_storeAgg rfl 27 (.tmp 8) (.tmp 48) rfl w1.heap.size 0 27 zd (c8 D) rfl rfl (hS.row 1 rfl) ID.out FD.out (one8 _) ?_))
        intro w9 hr hg hz
        clear hz
        rw [splice_all ED.out] at hr
        have hS9 := hS.setRow 1 rfl hr hg
        clear hS hr hg
        go_wp2
        exact bodyPost_ret (v := .tuple #[.agg (c8 D).toArray, .bool false]) (results_rowT rfl _ _ w1.heap.size _ _ rfl (hS9.row 1 rfl) Try.underlying27 rfl ID.out rfl) rfl ⟨rfl, hS9.grown⟩
    · have s4 : (0 : Int) < (last : Int) := by omega
      have s4' : 0 < last := by omega
      obtain ⟨i2, hi2⟩ : ∃ i2, i2 = i / 2 := ⟨_, rfl⟩
      obtain ⟨l2, hl2⟩ : ∃ l2, l2 = last / 2 := ⟨_, rfl⟩
      have u1 : (i : Int) / 2 = (i2 : Int) := by omega
      have u2 : (last : Int) / 2 = (l2 : Int) := by omega
      have HI2 := Lib.hid hi2
      have HL2 := Lib.hid hl2
      have H0 := Lib.hid (show last ≠ 0 from h0)
      have HW := Lib.hid hW
      have HK := Lib.hid hk
      have u3 : (i2 : Int) ≤ (l2 : Int) := by omega
      have u4 : (0 : Int) ≤ (i2 : Int) := by omega
      have u5 : (l2 : Int) ≤ 9223372036854775807 := by omega
      clear hi2 hl2 h0 hW hk hDl he hlast
      by_cases hc : i % 2 = 1 ∨ i < last
      · by_cases hk0 : k = 0
        · have hWn : W' = [] := List.eq_nil_of_length_eq_zero (by rw [← HK.out]; exact hk0)
          have hv := HV.out
          rw [hWn, climbR_none D H0.out hc] at hv
          injection hv with hv1 hv2
          subst hk0
          subst hv1
          subst hv2
          clear HW HK hWn HV
          have FZ := Lib.hid (show 0 + (c8 zeros32).length ≤ zd.length by decide)
          have EZ := Lib.hid (show (c8 zeros32).length = zd.length by decide)
          have IZ := Lib.hid (info_dg zeros32 (by simp [zeros32]))
          by_cases hodd : i % 2 = 1
          · have t1 : (i : Int) % 2 = 1 := by omega
            clear hodd hc hil
            go_wp2_with (refine wp_storeAgg rfl 27 (.tmp 8) (.tmp 28) rfl w1.heap.size 0 27 zd (c8 zeros32) rfl (by rw [z32lit]; rfl) (hS.row 1 rfl) IZ.out FZ.out (one8 _) ?_)
            intro w9 hr hg hz
            clear hz
            rw [splice_all EZ.out] at hr
            have hS9 := hS.setRow 1 rfl hr hg
            clear hS hr hg
            go_wp2
            exact bodyPost_ret (v := .tuple #[.agg (c8 zeros32).toArray, .bool false]) (results_rowT rfl _ _ w1.heap.size _ _ rfl (hS9.row 1 rfl) Try.underlying27 rfl IZ.out rfl) rfl ⟨rfl, hS9.grown⟩
          · have t1 : (i : Int) % 2 = 0 := by omega
            have t2 : (i : Int) < (last : Int) := by omega
            clear hodd hc hil
            go_wp2_with (refine wp_storeAgg rfl 27 (.tmp 8) (.tmp 28) rfl w1.heap.size 0 27 zd (c8 zeros32) rfl (by rw [z32lit]; rfl) (hS.row 1 rfl) IZ.out FZ.out (one8 _) ?_)
            intro w9 hr hg hz
            clear hz
            rw [splice_all EZ.out] at hr
            have hS9 := hS.setRow 1 rfl hr hg
            clear hS hr hg
            go_wp2
            exact bodyPost_ret (v := .tuple #[.agg (c8 zeros32).toArray, .bool false]) (results_rowT rfl _ _ w1.heap.size _ _ rfl (hS9.row 1 rfl) Try.underlying27 rfl IZ.out rfl) rfl ⟨rfl, hS9.grown⟩
        · have k1 : (1 : Int) ≤ (k : Int) := by omega
          have k2 : decide ((k : Int) = 0) = false := by simp; omega
          have k3 : ¬ k = 0 := hk0
          have k5 : 0 < k := by omega
          have k4 : ((k : Int) == 0) = false := by simp; omega
          obtain ⟨x, r, hxr⟩ : ∃ x r, W' = x :: r := by
            cases hW'c : W' with
            | nil => have := HK.out; rw [hW'c] at this; simp at this; omega
            | cons x r => exact ⟨x, r, rfl⟩
          subst hxr
          have hRx := HW.out.keep hS.grown
          obtain ⟨b, off, rfl, hat⟩ := hRx.at_ 0 (by simp)
          have hxl := HW.out.all.at_ 0 (by simp)
          have hdr := HW.out.drop 1 (by simp)
          have hle := HW.out.le
          have hkl := HK.out
          obtain ⟨B2, hB2⟩ : ∃ B2, B2 = (if e = 1 then (some ⟨b, off, none⟩ : Option Addr) else (some ⟨b, off, none⟩ : Option Addr).map fun ad => ad.add (1 * 32)) := ⟨_, rfl⟩
          have hfr := fun W => run_from32 Try.underlying31 size_d (some ⟨b, off, none⟩) k e 1 (by omega) (by rw [hkl]; exact hle) W
          rw [← hB2] at hdr hfr
          have hfr' : ∀ W, (Instr.slice 31 (.slice (some ⟨b, off, none⟩) k e) (some (.int .i64 1)) none none).run Try.prog W = .ok (.slice B2 (k - 1) (e - 1)) W := hfr
          have hx0 : (x :: r).getD 0 [] = x := rfl
          rw [hx0] at hat hxl
          have HAT := Lib.hid (show ∀ W, Own w W [] → w.grownBy W none → True from fun _ _ _ => trivial)
          have HATX := Lib.hid (show ∀ j u, (c8 x)[j]? = some u → wr.cell? ((⟨b, off, none⟩ : Addr).add j) = some u by simpa using hat)
          have HDR := Lib.hid (show Rows32 w B2 (e - 1) r from hdr)
          have HKR := Lib.hid (show k - 1 = r.length by rw [hkl]; simp)
          have IX := Lib.hid (info_dg x hxl)
          have HXL := Lib.hid hxl
          clear hat hx0 hRx hle hkl hfr hB2 hdr hk0 hxl HAT
          by_cases hodd : i % 2 = 1
          · have t1 : (i : Int) % 2 = 1 := by omega
            have hv := HV.out
            rw [climbR_take D x r H0.out hc, if_pos hodd, ← HI2.out, ← HL2.out] at hv
            have HV2 := Lib.hid hv
            have hcn := fun W => node_any x D W HXL.out HDL.out
            obtain ⟨Y, hY⟩ : ∃ Y, Y = nodeL x D := ⟨_, rfl⟩
            have hYl : Y.length = 32 := by rw [hY]; exact nodeL_length _ _
            rw [← hY] at HV2 hcn
            have HYL := Lib.hid hYl
            have IY := Lib.hid (info_dg Y hYl)
            have FY := Lib.hid (show 0 + (c8 Y).length ≤ (c8 D).length by rw [c8_length, c8_length, hYl, HDL.out]; decide)
            have EY := Lib.hid (show (c8 Y).length = (c8 D).length by rw [c8_length, c8_length, hYl, HDL.out])
            clear hodd hc hil hv hY hYl HV
            go_wp2
            have hS5 := hS.drew
            have hT5 := (Own.start wr).drew
            refine wp_region_mixC (fun W => Own wr W []) (fun i => i != 5) [(0, true), (1, true), (2, true), (3, true), (4, false), (5, false)] (by kernel_rfl) (by kernel_rfl) hT5 ?_
            iterate 2 (refine wpMix_step rfl (fun K hK => ?_); go_simp; (try go_bits); with_reducible refine hK _ ?_; clear hK K)
            refine wpMix_pureW (.agg (c8 x).toArray) rfl rfl (fun W hW => run_load_op 27 (.tmp 33) rfl Try.underlying27 rfl ⟨b, off, none⟩ rfl _ IX.out (fun j u hu => hW.cell (HATX.out j u hu))) ?_
            refine wpMix_pureW (.agg (c8 D).toArray) rfl rfl (fun W hW => run_load_op 27 (.tmp 11) rfl Try.underlying27 rfl ⟨w2.heap.size, 0, none⟩ rfl _ ID.out (fun j u hu => hW.cell (row_all (hS.row 0 rfl) j u hu))) ?_
            refine wpMix_loudW _ rfl rfl ?_
            go_wp2_with fail
            refine (hcn _).mono ?_
            rintro e w6 ⟨rfl, hg⟩
            have hT6 := hT5.call hg
            clear hg hT5
            go_wp2_with fail
            refine wpMix_next' (fun _ => hT6) ?_
            have hS6 := hS.call hT6.grown
            clear hS5 hT6 hcn
            refine wpMix_loudW _ rfl rfl ?_
            go_wp2_with (refine wp_storeAgg rfl 27 (.tmp 11) (.tmp 36) rfl w2.heap.size 0 27 (c8 D) (c8 Y) rfl rfl (hS6.row 0 rfl) IY.out FY.out (one8 _) ?_)
            intro w7 hr hg hz
            clear hz
            rw [splice_all EY.out] at hr
            have hS7 := hS6.setRow 0 rfl hr hg
            clear hS6 hr hg
            go_wp2_with fail
            refine wpMix_next' (fun h => absurd h (by decide)) ?_
            unfold wpMix
            go_wp2
            go_roundw
            case rel => exact ⟨l2, i2, k - 1, Y, B2, e - 1, r, by go_num, by go_num, rfl, HKR.out, HYL.out, HDR.out, by have := HE.out; omega, by omega, by omega, HV2, hS7⟩
            case measure => have := HL2.out; have := H0.out; simp [intOf] <;> omega
          · have t1 : (i : Int) % 2 = 0 := by omega
            have t2 : (i : Int) < (last : Int) := by omega
            have hv := HV.out
            rw [climbR_take D x r H0.out hc, if_neg hodd, ← HI2.out, ← HL2.out] at hv
            have HV2 := Lib.hid hv
            have hcn := fun W => node_any D x W HDL.out HXL.out
            obtain ⟨Y, hY⟩ : ∃ Y, Y = nodeL D x := ⟨_, rfl⟩
            have hYl : Y.length = 32 := by rw [hY]; exact nodeL_length _ _
            rw [← hY] at HV2 hcn
            have HYL := Lib.hid hYl
            have IY := Lib.hid (info_dg Y hYl)
            have FY := Lib.hid (show 0 + (c8 Y).length ≤ (c8 D).length by rw [c8_length, c8_length, hYl, HDL.out]; decide)
            have EY := Lib.hid (show (c8 Y).length = (c8 D).length by rw [c8_length, c8_length, hYl, HDL.out])
            clear hodd hc hil hv hY hYl HV
            go_wp2
            have hS5 := hS.drew
            have hT5 := (Own.start wr).drew
            refine wp_region_mixC (fun W => Own wr W []) (fun i => i != 5) [(0, true), (1, true), (2, true), (3, true), (4, false), (5, false)] (by kernel_rfl) (by kernel_rfl) hT5 ?_
            refine wpMix_pureW (.agg (c8 D).toArray) rfl rfl (fun W hW => run_load_op 27 (.tmp 11) rfl Try.underlying27 rfl ⟨w2.heap.size, 0, none⟩ rfl _ ID.out (fun j u hu => hW.cell (row_all (hS.row 0 rfl) j u hu))) ?_
            iterate 2 (refine wpMix_step rfl (fun K hK => ?_); go_simp; (try go_bits); with_reducible refine hK _ ?_; clear hK K)
            refine wpMix_pureW (.agg (c8 x).toArray) rfl rfl (fun W hW => run_load_op 27 (.tmp 39) rfl Try.underlying27 rfl ⟨b, off, none⟩ rfl _ IX.out (fun j u hu => hW.cell (HATX.out j u hu))) ?_
            refine wpMix_loudW _ rfl rfl ?_
            go_wp2_with fail
            refine (hcn _).mono ?_
            rintro e w6 ⟨rfl, hg⟩
            have hT6 := hT5.call hg
            clear hg hT5
            go_wp2_with fail
            refine wpMix_next' (fun _ => hT6) ?_
            have hS6 := hS.call hT6.grown
            clear hS5 hT6 hcn
            refine wpMix_loudW _ rfl rfl ?_
            go_wp2_with (refine wp_storeAgg rfl 27 (.tmp 11) (.tmp 41) rfl w2.heap.size 0 27 (c8 D) (c8 Y) rfl rfl (hS6.row 0 rfl) IY.out FY.out (one8 _) ?_)
            intro w7 hr hg hz
            clear hz
            rw [splice_all EY.out] at hr
            have hS7 := hS6.setRow 0 rfl hr hg
            clear hS6 hr hg
            go_wp2_with fail
            refine wpMix_next' (fun h => absurd h (by decide)) ?_
            unfold wpMix
            go_wp2
            go_roundw
            case rel => exact ⟨l2, i2, k - 1, Y, B2, e - 1, r, by go_num, by go_num, rfl, HKR.out, HYL.out, HDR.out, by have := HE.out; omega, by omega, by omega, HV2, hS7⟩
            case measure => have := HL2.out; have := H0.out; simp [intOf] <;> omega
      · have t1 : (i : Int) % 2 = 0 := by omega
        have t2 : decide ((i : Int) < (last : Int)) = false := by simp; omega
        have t3 : (last : Int) ≤ (i : Int) := by omega
        have t4 : decide (i < last) = false := by simp; omega
        have hv := HV.out
        rw [climbR_pass D W' H0.out hc, ← HI2.out, ← HL2.out] at hv
        have HV2 := Lib.hid hv
        clear hc hil hv HV
        go_wp2
        go_roundw
        case rel => exact ⟨l2, i2, k, D, B, e, W', by go_num, by go_num, rfl, HK.out, HDL.out, HW.out, HE.out, by omega, by omega, HV2, hS⟩
        case measure => have := HL2.out; have := H0.out; simp [intOf] <;> omega
theorem climb_any (n i : Nat) (d : List UInt8) (A : Option Addr) (c : Nat) (way : Way) (w : World) (hd : d.length = 32) (hw : Rows32 w A c way) (hc : c ≤ 9223372036854775807) (hn : n ≤ 9223372036854775807) (hi : i < n) :
    Calls Try.prog 49 #[.int .i64 (n : Int), .int .i64 (i : Int), .agg (c8 d).toArray, .slice A way.length c] w fun e w' => e = .returned (.tuple #[.agg (c8 (clV (climbR (n - 1) i d way)).1).toArray, .bool (clV (climbR (n - 1) i d way)).2]) ∧ w.grownBy w' none :=
  climb_core w n i d _ _ A c way.length way (Lib.hid hd) (Lib.hid hw) (Lib.hid hc) (Lib.hid rfl) (by omega) (by omega) (Lib.hid hi) (Lib.hid rfl)
theorem clV_check (root : List UInt8) (o : Option (List UInt8 × Way)) (h : ∀ x r, o = some (x, r) → True) : decide (o = some (root, [])) = ((clV o).2 && decide ((clV o).1 = root)) := by
  match o with
  | none => simp [clV]
  | some (x, []) =>
    have e : (some (x, ([] : Way)) = some (root, [])) ↔ x = root := by simp
    show decide _ = (true && decide (x = root))
    rw [Bool.true_and]
    exact decide_eq_decide.2 e
  | some (x, y :: r) => simp [clV]
theorem clV_len {o : Option (List UInt8 × Way)} (h : ∀ x r, o = some (x, r) → x.length = 32) : (clV o).1.length = 32 := by
  match o, h with
  | none, _ => simp [clV, zeros32]
  | some (x, []), h => exact h x [] rfl
  | some (x, y :: r), h => exact h x (y :: r) rfl

set_option maxRecDepth 100000 in
set_option maxHeartbeats 8000000 in
theorem checkx_core (w : World) (n i m c : Nat) (root d V : List UInt8) (b : Bool) (A : Option Addr) (HR : Hid (root.length = 32)) (HD : Hid (d.length = 32)) (HV : Hid (V.length = 32)) (hin : (i : Int) < (n : Int)) (n2 : (n : Int) ≤ 9223372036854775807)
    (cc : ∀ W, w.grownBy W none → Calls Try.prog 49 #[.int .i64 (n : Int), .int .i64 (i : Int), .agg (c8 d).toArray, .slice A m c] W fun e w' => e = .returned (.tuple #[.agg (c8 V).toArray, .bool b]) ∧ W.grownBy w' none)
    (eV : ∀ W : World, (Op.equalIn 10000 27 (.agg (c8 V).toArray) (.agg (c8 root).toArray)).run Try.prog W = .ok (decide (V = root)) W) :
    Calls Try.prog 24 #[.agg (c8 root).toArray, .int .i64 (n : Int), .int .i64 (i : Int), .agg (c8 d).toArray, .slice A m c] w fun e w' => e = .returned (.bool (b && decide (V = root))) ∧ w.grownBy w' none := by
  have IR := Lib.hid (info_dg root HR.out)
  have ID := Lib.hid (info_dg d HD.out)
  have IV := Lib.hid (info_dg V HV.out)
  have FV := Lib.hid (show 0 + (c8 V).length ≤ zd.length by rw [c8_length, HV.out]; decide)
  have EV := Lib.hid (show (c8 V).length = zd.length by rw [c8_length, HV.out]; decide)
  have i0 : (0 : Int) ≤ (i : Int) := by omega
  have t1 : decide ((i : Int) < 0) = false := by simp
  have t2 : decide ((n : Int) ≤ (i : Int)) = false := by simp; omega
  have t3 : decide (n ≤ i) = false := by simp; omega
  obtain ⟨q, hq⟩ : ∃ q, q = decide (V = root) := ⟨_, rfl⟩
  rw [← hq] at eV ⊢
  clear hq
  go_enter Try.func24, Try.ntmps24
  go_wp2_with (refine wp_box (o := ⟨some 5, _, _, _, _, _⟩) rfl 27 (.tmp 0) rfl (c8 root) rfl ?_)
  intro w1 hr hg hz
  clear hz
  have hS1 := ((Own.start w)).new hr hg
  clear hr hg
  go_wp2_with (refine wp_box (o := ⟨some 8, _, _, _, _, _⟩) rfl 27 (.tmp 3) rfl (c8 d) rfl ?_)
  intro w2 hr hg hz
  clear hz
  have hS2 := (hS1).new hr hg
  clear hr hg
  clear hS1
  go_wp2_with (first | (refine wp_load rfl 27 (.tmp 8) rfl Try.underlying27 rfl ⟨w1.heap.size, 0, none⟩ rfl (c8 d) ID.out (row_all (hS2.row 0 rfl)) ?_))
  refine (cc _ hS2.grown).mono ?_
  rintro e w3 ⟨rfl, hg⟩
  have hS3 := hS2.call hg
  clear hg hS2
  go_wp2_with (refine wp_alloc (o := ⟨some 11, _, _, _, _, _⟩) rfl 27 rfl _ alloc_d ?_)
  intro w4 hr hg hz
  clear hz
  have hS4 := hS3.new hr hg
  clear hr hg
  go_wp2_with (refine wp_storeAgg rfl 27 (.tmp 11) (.tmp 26) rfl w3.heap.size 0 27 zd (c8 V) rfl rfl (hS4.row 0 rfl) IV.out FV.out (one8 _) ?_)
  intro w5 hr hg hz
  clear hz
  rw [splice_all EV.out] at hr
  have hS5 := hS4.setRow 0 rfl hr hg
  clear hr hg hS4 hS3
  cases b
  · go_wp2_with fail
    go_ret
    exact ⟨by simp, hS5.grown⟩
  · go_wp2_with (first | (refine wp_load rfl 27 (.tmp 11) rfl Try.underlying27 rfl ⟨w3.heap.size, 0, none⟩ rfl (c8 V) IV.out (row_all (hS5.row 0 rfl)) ?_) | (refine wp_load rfl 27 (.tmp 5) rfl Try.underlying27 rfl ⟨w.heap.size, 0, none⟩ rfl (c8 root) IR.out (row_all (hS5.row 2 rfl)) ?_))
    go_ret
    exact ⟨by simp, hS5.grown⟩
set_option maxRecDepth 100000 in
set_option maxHeartbeats 8000000 in
theorem checkx_bad (w : World) (n i : Int) (root d : List UInt8) (s : Value) (hi : i < 0 ∨ (0 ≤ i ∧ n ≤ i)) :
    Calls Try.prog 24 #[.agg (c8 root).toArray, .int .i64 n, .int .i64 i, .agg (c8 d).toArray, s] w fun e w' => e = .returned (.bool false) ∧ w.grownBy w' none := by
  rcases hi with hi | ⟨h0, hi⟩
  · have t1 : decide (i < 0) = true := by simp; omega
    go_enter Try.func24, Try.ntmps24
    go_wp2_with (refine wp_box (o := ⟨some 5, _, _, _, _, _⟩) rfl 27 (.tmp 0) rfl (c8 root) rfl ?_)
    intro w1 hr hg hz
    clear hz
    have hS1 := ((Own.start w)).new hr hg
    clear hr hg
    go_wp2_with (refine wp_box (o := ⟨some 8, _, _, _, _, _⟩) rfl 27 (.tmp 3) rfl (c8 d) rfl ?_)
    intro w2 hr hg hz
    clear hz
    have hS2 := (hS1).new hr hg
    clear hr hg
    go_wp2
    go_ret
    exact ⟨rfl, hS2.grown⟩
  · have t1 : decide (i < 0) = false := by simp; omega
    have t2 : decide (n ≤ i) = true := by simp; omega
    go_enter Try.func24, Try.ntmps24
    go_wp2_with (refine wp_box (o := ⟨some 5, _, _, _, _, _⟩) rfl 27 (.tmp 0) rfl (c8 root) rfl ?_)
    intro w1 hr hg hz
    clear hz
    have hS1 := ((Own.start w)).new hr hg
    clear hr hg
    go_wp2_with (refine wp_box (o := ⟨some 8, _, _, _, _, _⟩) rfl 27 (.tmp 3) rfl (c8 d) rfl ?_)
    intro w2 hr hg hz
    clear hz
    have hS2 := (hS1).new hr hg
    clear hr hg
    go_wp2
    go_ret
    exact ⟨rfl, hS2.grown⟩
theorem check_any (n i : Nat) (root d : List UInt8) (A : Option Addr) (c : Nat) (way : Way) (w : World) (hr : root.length = 32) (hd : d.length = 32) (hw : Rows32 w A c way) (hc : c ≤ 9223372036854775807) (hn : n ≤ 9223372036854775807) (hi : i < n) :
    Calls Try.prog 24 #[.agg (c8 root).toArray, .int .i64 (n : Int), .int .i64 (i : Int), .agg (c8 d).toArray, .slice A way.length c] w fun e w' => e = .returned (.bool (checkL root n i d way)) ∧ w.grownBy w' none := by
  have hlen : ∀ x r, climbR (n - 1) i d way = some (x, r) → x.length = 32 := by
    rw [climb_up n n i d way (Nat.le_refl _) hi]
    exact fun x r h => (upO_len n n i d way (Nat.le_refl _) hd x r h).1
  unfold checkL
  rw [← climb_up n n i d way (Nat.le_refl _) hi, clV_check _ _ (fun _ _ _ => trivial)]
  exact checkx_core w n i way.length c root d _ _ A (Lib.hid hr) (Lib.hid hd) (Lib.hid (clV_len hlen)) (by omega) (by omega) (fun W hg => climb_any n i d A c way W hd (hw.keep hg) hc hn hi) (fun W => eq_dg W _ _ (clV_len hlen) hr)
end Go.Proofs.Ytpohjldhbaalbaa
