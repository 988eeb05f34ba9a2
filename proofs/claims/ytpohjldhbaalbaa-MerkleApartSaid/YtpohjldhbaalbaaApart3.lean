/- The contract of Apart. -/
import Derived.Test.YtpohjldhbaalbaaUp3
import Derived.Test.YtpohjldhbaalbaaFindsLaw
namespace Go.Proofs.Ytpohjldhbaalbaa
set_option linter.unusedVariables false
set_option linter.unusedSimpArgs false
set_option linter.unusedSectionVars false
open Go.RowKit
set_option linter.unusedVariables false

set_option maxRecDepth 100000 in
set_option maxHeartbeats 8000000 in
theorem apart_any (A B : Option Addr) (c d : Nat) (a b : List UInt8) (w : World) (ha : Bytes w A a) (hb : Bytes w B b) (hal : a.length = 65) (hbl : b.length = 65) :
    Calls Try.prog 50 #[.slice A 65 c, .slice B 65 d] w fun e w' => e = .returned (.bool (apartB a b)) ∧ w.grownBy w' none := by
  have HA := Lib.hid ha
  have HB := Lib.hid hb
  have HAL := Lib.hid hal
  have HBL := Lib.hid hbl
  have c1 := fun W (hg : w.grownBy W none) => rsum_any c A a W (ha.keep hg) (by omega)
  have c2 := fun W (hg : w.grownBy W none) => rsum_any d B b W (hb.keep hg) (by omega)
  have heq := fun W => eq_a32 W (sha a) (sha b) (sha_length a) (sha_length b)
  rw [hal] at c1
  rw [hbl] at c2
  have HR := Lib.hid (show apartB a b = decide (sha a = sha b ∧ a ≠ b) from rfl)
  obtain ⟨R, hR⟩ : ∃ R, R = apartB a b := ⟨_, rfl⟩
  rw [← hR] at HR ⊢
  clear hR
  obtain ⟨X, hX⟩ : ∃ X, X = sha a := ⟨_, rfl⟩
  obtain ⟨Y, hY⟩ : ∃ Y, Y = sha b := ⟨_, rfl⟩
  rw [← hX, ← hY] at heq HR
  rw [← hX] at c1
  rw [← hY] at c2
  clear hX hY ha hb hal hbl
  have hS0 := Own.start w
  by_cases hXY : X = Y
  · rw [decide_eq_true hXY] at heq
    have HR2 := Lib.hid (show R = decide (a ≠ b) by rw [HR.out]; exact decide_eq_decide.2 ⟨fun h => h.2, fun h => ⟨hXY, h⟩⟩)
    clear hXY HR
    go_enter Try.func50, Try.ntmps50
    go_wp2_with fail
    refine (c1 _ hS0.grown).mono ?_
    rintro e w1 ⟨rfl, hg⟩
    have hS1 := hS0.call hg
    clear hg hS0
    go_wp2_with fail
    refine (c2 _ hS1.grown).mono ?_
    rintro e w2 ⟨rfl, hg⟩
    have hS2 := hS1.call hg
    clear hg hS1
    go_wp2
    go_loopw [5] (fun iv wr => ∃ k : Nat, k ≤ 65 ∧ iv = .int .i64 (k : Int) ∧ Hid (a.take k = b.take k) ∧ Own w wr []) (fun iv _ => 65 - (intOf iv).toNat)
    case atStart => exact ⟨0, by omega, rfl, Lib.hid (by simp), hS2⟩
    case round =>
      clear hS2
      obtain ⟨k, hk, rfl, HT, hS⟩ := hrel
      by_cases hlt : k < 65
      · have q1 : (k : Int) < 65 := by omega
        have hgr := hS.grown
        obtain ⟨bl, off, rfl, hat⟩ := (HA.out.keep hgr) (by rw [HAL.out]; omega)
        obtain ⟨bl', off', rfl, hat'⟩ := (HB.out.keep hgr) (by rw [HBL.out]; omega)
        have ca := hat k (by rw [HAL.out]; exact hlt)
        have cb := hat' k (by rw [HBL.out]; exact hlt)
        obtain ⟨x, hx⟩ : ∃ x, x = a.getD k 0 := ⟨_, rfl⟩
        obtain ⟨y, hy⟩ : ∃ y, y = b.getD k 0 := ⟨_, rfl⟩
        rw [← hx] at ca
        rw [← hy] at cb
        have HT1 := Lib.hid (take_snoc8 a k (by rw [HAL.out]; exact hlt))
        have HT2 := Lib.hid (take_snoc8 b k (by rw [HBL.out]; exact hlt))
        have HXY := Lib.hid (show x ≠ y → a ≠ b by rintro hne rfl; rw [hx, hy] at hne; exact hne rfl)
        have HEX := Lib.hid (show x = y → a.take (k + 1) = b.take (k + 1) by intro e; rw [HT1.out, HT2.out, HT.out, ← hx, ← hy, e])
        have HK := Lib.hid (show k < 65 from hlt)
        have HCA := Lib.hid (show ∀ W, Own wr W [] → W.cell? ⟨bl, off + k, none⟩ = some (.int .u8 (n8 x)) from fun W hW => hW.cell ca)
        have HCB := Lib.hid (show ∀ W, Own wr W [] → W.cell? ⟨bl', off' + k, none⟩ = some (.int .u8 (n8 y)) from fun W hW => hW.cell cb)
        clear hx hy hat hat' hlt hk hgr ca cb HT1 HT2
        have hR := Own.start wr
        go_wp2
        have hR1 := hR.drew
        clear hR
        refine wp_region_mixC (fun W => Own wr W _) (fun _ => true) [(0, true), (1, true), (2, true), (3, true), (4, true), (5, true), (6, true), (7, true), (8, true)] (by kernel_rfl) (by kernel_rfl) hR1 ?_
        iterate 3 (refine wpMix_step rfl (fun K hK => ?_); go_simp; (try go_bits); with_reducible refine hK _ ?_; clear hK K)
        refine wpMix_pureW _ rfl rfl (fun W hW => run_load_cell 5 (.tmp 24) rfl Try.underlying5 rfl ⟨bl, off + k, none⟩ rfl _ (HCA.out W hW)) ?_
        iterate 3 (refine wpMix_step rfl (fun K hK => ?_); go_simp; (try go_bits); with_reducible refine hK _ ?_; clear hK K)
        refine wpMix_pureW _ rfl rfl (fun W hW => run_load_cell 5 (.tmp 28) rfl Try.underlying5 rfl ⟨bl', off' + k, none⟩ rfl _ (HCB.out W hW)) ?_
        have hS1 := hS.call hR1.grown
        clear hS hR1
        by_cases hxy : x = y
        · have HT3 := Lib.hid (HEX.out hxy)
          subst hxy
          iterate 1 (refine wpMix_step rfl (fun K hK => ?_); go_simp; (try go_bits); with_reducible refine hK _ ?_; clear hK K)
          unfold wpMix
          go_wp2
          go_roundw
          case rel => exact ⟨k + 1, by have := HK.out; omega, by go_num, HT3, hS1⟩
          case measure => have := HK.out; simp [intOf] <;> omega
        · have HN := Lib.hid (show R = true by rw [HR2.out]; exact decide_eq_true (HXY.out hxy))
          have t1 : decide (n8 x = n8 y) = false := by simp; exact fun e => hxy (n8_inj e)
          have t2 : ¬ n8 x = n8 y := fun e => hxy (n8_inj e)
          have t3 : (n8 x != n8 y) = true := by simpa using t2
          have t4 : (n8 x == n8 y) = false := by simpa using t2
          clear hxy
          iterate 1 (refine wpMix_step rfl (fun K hK => ?_); go_simp; (try go_bits); with_reducible refine hK _ ?_; clear hK K)
          unfold wpMix
          go_wp2
          go_ret
          exact ⟨by rw [HN.out]; rfl, hS1.grown⟩
      · obtain rfl : k = 65 := by omega
        have hE := HT.out
        rw [List.take_of_length_le (by rw [HAL.out]; exact Nat.le_refl _), List.take_of_length_le (by rw [HBL.out]; exact Nat.le_refl _)] at hE
        have HN := Lib.hid (show R = false by rw [HR2.out]; exact decide_eq_false (fun h => h hE))
        clear hE hlt hk
        go_wp2
        go_ret
        exact ⟨by rw [HN.out]; rfl, hS.grown⟩
  · rw [decide_eq_false hXY] at heq
    have HR2 := Lib.hid (show R = false by rw [HR.out]; exact decide_eq_false (fun h => hXY h.1))
    clear hXY HR
    go_enter Try.func50, Try.ntmps50
    go_wp2_with fail
    refine (c1 _ hS0.grown).mono ?_
    rintro e w1 ⟨rfl, hg⟩
    have hS1 := hS0.call hg
    clear hg hS0
    go_wp2_with fail
    refine (c2 _ hS1.grown).mono ?_
    rintro e w2 ⟨rfl, hg⟩
    have hS2 := hS1.call hg
    clear hg hS1
    go_wp2_with fail
    go_ret
    exact ⟨by rw [HR2.out]; rfl, hS2.grown⟩
end Go.Proofs.Ytpohjldhbaalbaa
