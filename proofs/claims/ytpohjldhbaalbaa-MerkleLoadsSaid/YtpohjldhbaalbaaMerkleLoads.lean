/- The walk of the law MerkleLoads. -/
import Derived.Test.YtpohjldhbaalbaaFrontMore
namespace Go.Proofs.Ytpohjldhbaalbaa
set_option linter.unusedVariables false
set_option linter.unusedSimpArgs false
set_option linter.unusedSectionVars false
open Go.RowKit
set_option linter.unusedVariables false

theorem ftops_at (g n m c : Nat) (A : Option Addr) (T : Way) (w : World) (hm : T.length = m) (hr : Row w g 82 (frC n (.slice A m c))) (hT : Rows32 w A c T) (hl : T.length ≤ 4398046511104) :
    Calls Try.prog 36 #[.pointer (some ⟨g, 0, none⟩)] w fun e w' => ∃ v, e = .returned v ∧ OwnsR w' w.heap.size 27 v T ∧ w.grownBy w' none := by
  subst hm; exact ftops_any g n c A T w hr hT hl
theorem froot_at (g n m c : Nat) (A : Option Addr) (T : Way) (w : World) (hm : T.length = m) (hr : Row w g 82 (frC n (.slice A m c))) (hT : Rows32 w A c T) (hl : T.length ≤ 4398046511104) :
    Calls Try.prog 37 #[.pointer (some ⟨g, 0, none⟩)] w fun e w' => e = .returned (.agg (c8 (foldR T)).toArray) ∧ w.grownBy w' none := by
  subst hm; exact froot_any g n c A T w hr hT hl
theorem carry_last : ∀ (n : Nat) (T : Way) (d : List UInt8), ∃ P x, carryL T n d = P ++ [x] := by
  intro n
  induction n using Nat.strongRecOn with
  | _ n ih =>
    intro T d
    by_cases h : n % 2 = 1
    · rw [carryL_odd _ _ _ h]; exact ih (n / 2) (by omega) _ _
    · rw [carryL_even _ _ _ (by omega)]; exact ⟨T, d, rfl⟩
set_option maxRecDepth 100000 in
set_option maxHeartbeats 16000000 in
theorem loads_neg (w : World) (A : Option Addr) (c m : Nat) (T : Way) (leaf : List UInt8) (HL : Hid (leaf.length = 32)) (HM : Hid (T.length = m)) (hm : (m : Int) ≤ 4398046511104)
    (kt : ∀ W, w.grownBy W none → Calls Try.prog 18 #[.slice A m c] W fun e w' => ∃ v, e = .returned v ∧ OwnsR w' W.heap.size 27 v T ∧ W.grownBy w' none) (n : Int) (hn : n < 0) :
    Calls Try.prog 11 #[.int .i64 n, .slice A m c, .agg (c8 leaf).toArray] w fun e w' => e = .returned (.bool true) ∧ w.grownBy w' none := by
  have t1 : decide (n < 0) = true := by simp; omega
  have HN := Lib.hid hn
  have IL := Lib.hid (info_a32 leaf HL.out)
  go_enter Try.func11, Try.ntmps11
  go_wp2_with (refine wp_box (o := ⟨some 5, _, _, _, _, _⟩) rfl 26 (.tmp 2) rfl (c8 leaf) rfl ?_)
  intro w1 hr hg hz
  clear hz
  have hS1 := ((Own.start w)).new hr hg
  clear hr hg
  go_wp2_with fail
  refine (kt _ hS1.grown).mono ?_
  rintro e w2 ⟨v, rfl, ho, hg⟩
  obtain ⟨A1, c1, rfl, hR1, hc1⟩ := ownsR_at ho HM.out
  have hS2 := hS1.call hg
  clear hg hS1 kt ho
  go_wp2_with fail
  refine (fload_bad n A1 c1 m _ HN.out).mono ?_
  rintro e w' ⟨rfl, rfl⟩
  go_wp2_with fail
  refine (awake_any _).mono ?_
  rintro e w3 ⟨rfl, hg⟩
  have hS3 := hS2.call hg
  clear hg hS2
  go_wp2
  go_ret
  exact ⟨rfl, hS3.grown⟩
set_option maxRecDepth 100000 in
set_option maxHeartbeats 16000000 in
theorem loads_form (w : World) (A : Option Addr) (c m : Nat) (T : Way) (leaf : List UInt8) (HL : Hid (leaf.length = 32)) (HM : Hid (T.length = m)) (hm : (m : Int) ≤ 4398046511104)
    (kt : ∀ W, w.grownBy W none → Calls Try.prog 18 #[.slice A m c] W fun e w' => ∃ v, e = .returned v ∧ OwnsR w' W.heap.size 27 v T ∧ W.grownBy w' none) (n o : Nat) (hn : n < 9223372036854775808) (ho' : Hid (onesL n = o)) (hmo : m ≠ o) :
    Calls Try.prog 11 #[.int .i64 (n : Int), .slice A m c, .agg (c8 leaf).toArray] w fun e w' => e = .returned (.bool true) ∧ w.grownBy w' none := by
  have t0 : (0 : Int) ≤ (n : Int) := by omega
  have t1 : decide ((n : Int) < 0) = false := by simp <;> omega
  have t4 : decide ((m : Int) = (o : Int)) = false := by simp; omega
  have t5 : ((m : Int) == (o : Int)) = false := by simp; omega
  have t6 : ((m : Int) != (o : Int)) = true := by simp; omega
  have t7 : ¬ m = o := hmo
  have kones := fun W => rones_any n W hn
  rw [ho'.out] at kones
  have HN := Lib.hid (show n < 9223372036854775808 ∧ m ≠ onesL n ∧ m ≤ 9223372036854775807 from ⟨hn, by rw [ho'.out]; exact hmo, by omega⟩)
  clear hn hmo
  have IL := Lib.hid (info_a32 leaf HL.out)
  go_enter Try.func11, Try.ntmps11
  go_wp2_with (refine wp_box (o := ⟨some 5, _, _, _, _, _⟩) rfl 26 (.tmp 2) rfl (c8 leaf) rfl ?_)
  intro w1 hr hg hz
  clear hz
  have hS1 := ((Own.start w)).new hr hg
  clear hr hg
  go_wp2_with fail
  refine (kt _ hS1.grown).mono ?_
  rintro e w2 ⟨v, rfl, ho, hg⟩
  obtain ⟨A1, c1, rfl, hR1, hc1⟩ := ownsR_at ho HM.out
  have hS2 := hS1.call hg
  clear hg hS1 kt ho
  go_wp2_with fail
  refine (fload_form n A1 c1 m _ HN.out.1 HN.out.2.1 HN.out.2.2).mono ?_
  rintro e w' ⟨rfl, rfl⟩
  go_wp2_with fail
  refine (awake_any _).mono ?_
  rintro e w3 ⟨rfl, hg⟩
  have hS3 := hS2.call hg
  clear hg hS2
  go_wp2_with fail
  refine (kones _).mono ?_
  rintro e w' ⟨rfl, rfl⟩
  go_wp2
  go_ret
  exact ⟨rfl, hS3.grown⟩
set_option maxRecDepth 100000 in
set_option maxHeartbeats 16000000 in
theorem loads_max (w : World) (A : Option Addr) (c m : Nat) (T : Way) (leaf : List UInt8) (HL : Hid (leaf.length = 32)) (HM : Hid (T.length = m)) (hm : (m : Int) ≤ 4398046511104)
    (kt : ∀ W, w.grownBy W none → Calls Try.prog 18 #[.slice A m c] W fun e w' => ∃ v, e = .returned v ∧ OwnsR w' W.heap.size 27 v T ∧ W.grownBy w' none)
    (HT : Hid (Rows32 w A c T)) (kfr : ∀ A c W, Rows32 W A c T → Calls Try.prog 22 #[.slice A m c] W fun e w' => ∃ v, e = .returned v ∧ OwnsR w' W.heap.size 26 v T ∧ W.grownBy w' none)
    (ksm : ∀ A c B d W, Rows32 W A c T → Rows32 W B d T → Calls Try.prog 21 #[.slice A m c, .slice B m d] W fun e w' => e = .returned (.bool true) ∧ W.grownBy w' none) (n : Nat) (hn : n = 9223372036854775807) (hmo : T.length = onesL n) :
    Calls Try.prog 11 #[.int .i64 (n : Int), .slice A m c, .agg (c8 leaf).toArray] w fun e w' => e = .returned (.bool true) ∧ w.grownBy w' none := by
  have HNM := Lib.hid hn
  have g2 : decide ((n : Int) = 9223372036854775807) = true := by simp; omega
  have g3 : ((n : Int) == 9223372036854775807) = true := by simp; omega
  have t0 : (0 : Int) ≤ (n : Int) := by omega
  have t1 : decide ((n : Int) < 0) = false := by simp <;> omega
  have kones := fun W => rones_any n W (by omega)
  rw [← hmo, HM.out] at kones
  have HN := Lib.hid (show n < 9223372036854775808 ∧ T.length = onesL n from ⟨by omega, hmo⟩)
  have HB := Lib.hid (show T.length ≤ 4398046511104 by rw [HM.out]; omega)
  clear hn hmo
  have IL := Lib.hid (info_a32 leaf HL.out)
  go_enter Try.func11, Try.ntmps11
  go_wp2_with (refine wp_box (o := ⟨some 5, _, _, _, _, _⟩) rfl 26 (.tmp 2) rfl (c8 leaf) rfl ?_)
  intro w1 hr hg hz
  clear hz
  have hS1 := ((Own.start w)).new hr hg
  clear hr hg
  go_wp2_with fail
  refine (kt _ hS1.grown).mono ?_
  rintro e w2 ⟨v, rfl, ho, hg⟩
  obtain ⟨A1, c1, rfl, hR1, hc1⟩ := ownsR_at ho HM.out
  have hS2 := hS1.call hg
  clear hg hS1 kt ho
  go_wp2_with fail
  have kl := fload_ok n A1 c1 T _ HN.out.1 hR1 HN.out.2
  rw [HM.out] at kl
  refine kl.mono ?_
  rintro e w3 ⟨g, v, rfl, ho⟩
  have hS3 := (hS2.join ho).lower 1 rfl
  clear hS2 ho kl hR1 hc1
  obtain ⟨A2, c2, rfl, _, _⟩ := ownsR_at (hS3.rows 1 rfl) HM.out
  change Own w w3 [rowE g 82 (frC n (.slice A2 m c2)), rowsE w.heap.size 27 (.slice A2 m c2) T, rowE w.heap.size 26 (c8 leaf)] at hS3
  go_wp2_with fail
  refine (awake_any _).mono ?_
  rintro e w4 ⟨rfl, hg⟩
  have hS4 := hS3.call hg
  clear hg hS3
  go_wp2_with fail
  refine (kones _).mono ?_
  rintro e w' ⟨rfl, rfl⟩
  go_wp2_with fail
  refine (fsize_any g n _ _ (hS4.row 0 rfl)).mono ?_
  rintro e w' ⟨rfl, rfl⟩
  go_wp2_with fail
  refine (ftops_at g n m c2 A2 T _ HM.out (hS4.row 0 rfl) (own_slice (hS4.rows 1 rfl)).2.1 HB.out).mono ?_
  rintro e w5 ⟨v, rfl, ho, hg⟩
  obtain ⟨A3, c3, rfl, hR3, hc3⟩ := ownsR_at ho HM.out
  have hS5 := hS4.call hg
  clear hg hS4 ho
  go_wp2_with fail
  refine (kfr _ _ _ hR3).mono ?_
  rintro e w6 ⟨v, rfl, ho, hg⟩
  obtain ⟨A4, c4, rfl, hR4, hc4⟩ := ownsR_at ho HM.out
  have hS6 := hS5.call hg
  clear hg hS5 ho hR3 hc3
  go_wp2_with fail
  refine (ksm _ _ _ _ _ hR4 (HT.out.keep hS6.grown)).mono ?_
  rintro e w7 ⟨rfl, hg⟩
  have hS7 := hS6.call hg
  clear hg hS6 hR4 hc4
  go_wp2_with (first | (refine wp_load rfl 26 (.tmp 5) rfl Try.underlying26 rfl ⟨w.heap.size, 0, none⟩ rfl (c8 leaf) IL.out (row_all (hS7.row 2 rfl)) ?_))
  refine (fadd_limit g (.slice A2 m c2) leaf _ (by rw [← HNM.out]; exact hS7.row 0 rfl)).mono ?_
  rintro e w8 ⟨rfl, hg⟩
  have hS8 := hS7.call hg
  clear hg hS7
  go_wp2_with fail
  refine (fsize_any g n _ _ (hS8.row 0 rfl)).mono ?_
  rintro e w' ⟨rfl, rfl⟩
  go_wp2
  go_ret
  exact ⟨rfl, hS8.grown⟩
set_option maxRecDepth 100000 in
set_option maxHeartbeats 16000000 in
theorem loads_main (w : World) (A : Option Addr) (c m : Nat) (T : Way) (leaf : List UInt8) (HL : Hid (leaf.length = 32)) (HM : Hid (T.length = m)) (hm : (m : Int) ≤ 4398046511104)
    (kt : ∀ W, w.grownBy W none → Calls Try.prog 18 #[.slice A m c] W fun e w' => ∃ v, e = .returned v ∧ OwnsR w' W.heap.size 27 v T ∧ W.grownBy w' none)
    (HT : Hid (Rows32 w A c T)) (kfr : ∀ A c W, Rows32 W A c T → Calls Try.prog 22 #[.slice A m c] W fun e w' => ∃ v, e = .returned v ∧ OwnsR w' W.heap.size 26 v T ∧ W.grownBy w' none)
    (ksm : ∀ A c B d W, Rows32 W A c T → Rows32 W B d T → Calls Try.prog 21 #[.slice A m c, .slice B m d] W fun e w' => e = .returned (.bool true) ∧ W.grownBy w' none)
    (kcut : ∀ W, Rows32 W A c T → Calls Try.prog 13 #[.slice A m c, .int .i64 (m : Int)] W fun e w' => ∃ v, e = .returned v ∧ OwnsR w' W.heap.size 26 v T ∧ W.grownBy w' none)
    (n q1 : Nat) (hn : n < 9223372036854775807) (hmo : T.length = onesL n) (C : Way) (hC : Hid (C = carryL T n leaf)) (hq1 : Hid (C.length = q1 + 1)) (m2 : Nat) (hm2 : Hid (C.length = m2)) (hm63 : (m2 : Int) ≤ 64) (z : List UInt8) (hz1 : Hid (C.getD q1 [] = z)) (R : List UInt8) (hRR : Hid (R = foldR C))
    (kfr2 : ∀ A c W, Rows32 W A c C → Calls Try.prog 22 #[.slice A m2 c] W fun e w' => ∃ v, e = .returned v ∧ OwnsR w' W.heap.size 26 v C ∧ W.grownBy w' none)
    (ksm2 : ∀ A c B d W, Rows32 W A c C → Rows32 W B d C → Calls Try.prog 21 #[.slice A m2 c, .slice B m2 d] W fun e w' => e = .returned (.bool true) ∧ W.grownBy w' none)
    (eqR : ∀ W : World, (Op.equalIn 10000 27 (.agg (c8 R).toArray) (.agg (c8 R).toArray)).run Try.prog W = .ok true W) :
    Calls Try.prog 11 #[.int .i64 (n : Int), .slice A m c, .agg (c8 leaf).toArray] w fun e w' => e = .returned (.bool true) ∧ w.grownBy w' none := by
  have g1 : ¬ (n : Int) = 9223372036854775807 := by omega
  have g2 : decide ((n : Int) = 9223372036854775807) = false := by simp; omega
  have g3 : ((n : Int) == 9223372036854775807) = false := by simp; omega
  have g4 : (n : Int) ≤ 9223372036854775806 := by omega
  have HNM := Lib.hid hn
  have t0 : (0 : Int) ≤ (n : Int) := by omega
  have t1 : decide ((n : Int) < 0) = false := by simp <;> omega
  have kones := fun W => rones_any n W (by omega)
  rw [← hmo, HM.out] at kones
  have HN := Lib.hid (show n < 9223372036854775808 ∧ T.length = onesL n from ⟨by omega, hmo⟩)
  have HB := Lib.hid (show T.length ≤ 4398046511104 by rw [HM.out]; omega)
  clear hn hmo
  have IL := Lib.hid (info_a32 leaf HL.out)
  go_enter Try.func11, Try.ntmps11
  go_wp2_with (refine wp_box (o := ⟨some 5, _, _, _, _, _⟩) rfl 26 (.tmp 2) rfl (c8 leaf) rfl ?_)
  intro w1 hr hg hz
  clear hz
  have hS1 := ((Own.start w)).new hr hg
  clear hr hg
  go_wp2_with fail
  refine (kt _ hS1.grown).mono ?_
  rintro e w2 ⟨v, rfl, ho, hg⟩
  obtain ⟨A1, c1, rfl, hR1, hc1⟩ := ownsR_at ho HM.out
  have hS2 := hS1.call hg
  clear hg hS1 kt ho
  go_wp2_with fail
  have kl := fload_ok n A1 c1 T _ HN.out.1 hR1 HN.out.2
  rw [HM.out] at kl
  refine kl.mono ?_
  rintro e w3 ⟨g, v, rfl, ho⟩
  have hS3 := (hS2.join ho).lower 1 rfl
  clear hS2 ho kl hR1 hc1
  obtain ⟨A2, c2, rfl, _, _⟩ := ownsR_at (hS3.rows 1 rfl) HM.out
  change Own w w3 [rowE g 82 (frC n (.slice A2 m c2)), rowsE w.heap.size 27 (.slice A2 m c2) T, rowE w.heap.size 26 (c8 leaf)] at hS3
  go_wp2_with fail
  refine (awake_any _).mono ?_
  rintro e w4 ⟨rfl, hg⟩
  have hS4 := hS3.call hg
  clear hg hS3
  go_wp2_with fail
  refine (kones _).mono ?_
  rintro e w' ⟨rfl, rfl⟩
  go_wp2_with fail
  refine (fsize_any g n _ _ (hS4.row 0 rfl)).mono ?_
  rintro e w' ⟨rfl, rfl⟩
  go_wp2_with fail
  refine (ftops_at g n m c2 A2 T _ HM.out (hS4.row 0 rfl) (own_slice (hS4.rows 1 rfl)).2.1 HB.out).mono ?_
  rintro e w5 ⟨v, rfl, ho, hg⟩
  obtain ⟨A3, c3, rfl, hR3, hc3⟩ := ownsR_at ho HM.out
  have hS5 := hS4.call hg
  clear hg hS4 ho
  go_wp2_with fail
  refine (kfr _ _ _ hR3).mono ?_
  rintro e w6 ⟨v, rfl, ho, hg⟩
  obtain ⟨A4, c4, rfl, hR4, hc4⟩ := ownsR_at ho HM.out
  have hS6 := hS5.call hg
  clear hg hS5 ho hR3 hc3
  go_wp2_with fail
  refine (ksm _ _ _ _ _ hR4 (HT.out.keep hS6.grown)).mono ?_
  rintro e w7 ⟨rfl, hg⟩
  have hS7 := hS6.call hg
  clear hg hS6 hR4 hc4
  go_wp2_with (first | (refine wp_load rfl 26 (.tmp 5) rfl Try.underlying26 rfl ⟨w.heap.size, 0, none⟩ rfl (c8 leaf) IL.out (row_all (hS7.row 2 rfl)) ?_))
  refine (fadd_any g n w.heap.size _ T leaf w _ _ hS7 (Nat.le_refl _) HNM.out HN.out.2 HL.out).mono ?_
  rintro e w8 ⟨v2, rfl, hS8⟩
  rw [← hC.out] at hS8
  clear hS7
  obtain ⟨A5, c5, rfl, _, _⟩ := ownsR_at (hS8.rows 1 rfl) hm2.out
  go_wp2_with fail
  refine (kcut _ (HT.out.keep hS8.grown)).mono ?_
  rintro e w9 ⟨v, rfl, ho, hg⟩
  have hS9 := (hS8.madeR ho hg).lower 0 rfl
  clear hS8 ho hg
  go_wp2_with (first | (refine wp_load rfl 26 (.tmp 5) rfl Try.underlying26 rfl ⟨w.heap.size, 0, none⟩ rfl (c8 leaf) IL.out (row_all (hS9.row 3 rfl)) ?_) | (refine wp_alloc (o := ⟨some 11, _, _, _, _, _⟩) rfl 26 rfl _ alloc_d32 ?_))
  intro wA hr hg hz
  clear hz
  have hSA := hS9.new hr hg
  clear hr hg hS9
  have FLF := Lib.hid (show 0 + (c8 leaf).length ≤ zd.length by rw [c8_length, HL.out]; decide)
  have ELF := Lib.hid (show (c8 leaf).length = zd.length by rw [c8_length, HL.out]; decide)
  go_wp2_with (refine wp_storeAgg rfl 26 (.tmp 11) (.tmp 78) rfl w9.heap.size 0 26 zd (c8 leaf) rfl rfl (hSA.row 0 rfl) IL.out FLF.out (one8 _) ?_)
  intro wB hr hg hz
  clear hz
  rw [splice_all ELF.out] at hr
  have hSB := hSA.setRow 0 rfl hr hg
  clear hr hg hSA
  obtain ⟨gd, hgd⟩ : ∃ gd, gd = w9.heap.size := ⟨_, rfl⟩
  obtain ⟨gl, hgl⟩ : ∃ gl, gl = w.heap.size := ⟨_, rfl⟩
  have hSC : Own w wB [rowE gd 26 (c8 leaf), rowsE w.heap.size 26 v T, rowE g 82 (frC (n + 1) (.slice A5 m2 c5)), rowsE w.heap.size 27 (.slice A5 m2 c5) C] := by
    rw [hgd]; exact hSB.sub (by
      refine List.Sublist.cons_cons _ (List.Sublist.cons_cons _ (List.Sublist.cons_cons _ (List.Sublist.cons_cons _ ?_)))
      exact List.nil_sublist _)
  rw [← hgd]
  clear hSB hgd hgl gl
  go_wp2
  go_loopw [10, 12] (fun wv kv wr => ∃ (k : Nat) (d : List UInt8) (T' : Way), kv = .int .i64 (k : Int) ∧ (k : Int) ≤ (n : Int) ∧ Hid (d.length = 32) ∧ Hid (T'.length = onesL k) ∧ Hid (T'.length ≤ 63) ∧ Hid (carryL T' k d = C) ∧ Own w wr [rowE gd 26 (c8 d), rowsE w.heap.size 26 wv T', rowE g 82 (frC (n + 1) (.slice A5 m2 c5)), rowsE w.heap.size 27 (.slice A5 m2 c5) C]) (fun _ kv _ => (intOf kv).toNat)
  case atStart => exact ⟨n, leaf, T, rfl, by omega, HL, Lib.hid HN.out.2, Lib.hid (by rw [HN.out.2]; exact onesL_le 63 n HN.out.1), Lib.hid hC.out.symm, hSC⟩
  case round =>
    clear hSC
    obtain ⟨k, d, T', rfl, hk, HD, HO, HL63, HR, hS⟩ := hrel
    have ID := Lib.hid (info_a32 d HD.out)
    have k0 : (0 : Int) ≤ (k : Int) := by omega
    obtain ⟨h, hh⟩ : ∃ h, h = k / 2 := ⟨_, rfl⟩
    have e2 : (k : Int).tdiv 2 = (h : Int) := by rw [Int.tdiv_eq_ediv_of_nonneg (by omega)]; omega
    have e2' : (k : Int) / 2 = (h : Int) := by omega
    obtain ⟨A', c', hv', hR', hc'⟩ := ownsR_open (hS.rows 1 rfl)
    subst hv'
    by_cases hodd : k % 2 = 1
    · have HK := Lib.hid (show h < k by omega)
      have HK2 := Lib.hid (show (h : Int) ≤ (n : Int) by omega)
      have hpos : 0 < T'.length := by rw [HO.out, onesL_two]; omega
      have e1 : (k : Int).tmod 2 = 1 := by rw [Int.tmod_eq_emod_of_nonneg (by omega)]; omega
      have e1' : (k : Int) % 2 = 1 := by omega
      obtain ⟨m1, hm1⟩ : ∃ m1, T'.length = m1 + 1 := ⟨T'.length - 1, by omega⟩
      obtain ⟨b, off, hA, hat⟩ := hR'.at_ m1 (by omega)
      subst hA
      have hyl := hR'.all.at_ m1 (by omega)
      have HC1 := Lib.hid (show carryL (T'.take m1) h (nodeL (T'.getD m1 []) d) = C by
        rw [hh, ← HR.out, carryL_odd T' k d hodd, List.dropLast_eq_take, show T'.length - 1 = m1 by omega])
      have HO1 := Lib.hid (show (T'.take m1).length = onesL h by have := HO.out; rw [onesL_two, ← hh] at this; simp; omega)
      have HLE := Lib.hid (show m1 ≤ T'.length by omega)
      have hcap := hR'.le
      have hslc := fun W => run_to32 Try.underlying22 size_a (some ⟨b, off, none⟩) T'.length c' m1 (by omega) W
      have HL62 := Lib.hid (show (T'.take m1).length ≤ 63 by have := HL63.out; simp; omega)
      obtain ⟨y, hy⟩ : ∃ y, y = T'.getD m1 [] := ⟨_, rfl⟩
      rw [← hy] at hat hyl HC1
      have IY := Lib.hid (info_a32 y hyl)
      have HAY := Lib.hid hat
      have cn := fun W => rnode_any y d W hyl HD.out
      obtain ⟨N, hN⟩ : ∃ N, N = nodeL y d := ⟨_, rfl⟩
      rw [← hN] at cn HC1
      have hNl : N.length = 32 := by rw [hN]; exact nodeL_length _ _
      have INN := Lib.hid (info_a32 N hNl)
      have FN := Lib.hid (show 0 + (c8 N).length ≤ (c8 d).length by rw [c8_length, c8_length, hNl, HD.out]; decide)
      have EN := Lib.hid (show (c8 N).length = (c8 d).length by rw [c8_length, c8_length, hNl, HD.out])
      have HNL := Lib.hid hNl
      have p2 : (T'.length : Int) - 1 = (m1 : Int) := by omega
      have p3 : (m1 : Int) < (T'.length : Int) := by omega
      have p4 : (0 : Int) ≤ (m1 : Int) := by omega
      have p5 : (T'.length : Int) ≤ 63 := by have := HL63.out; omega
      obtain ⟨mm, hmm⟩ : ∃ mm, mm = T'.length := ⟨_, rfl⟩
      rw [← hmm] at p2 p3 p5 hslc hS ⊢
      clear hat hy hyl hN hNl hpos hR' hc' hcap hmm hodd hm1 hh
      have HDD := Lib.hid (row_all (hS.row 0 rfl))
      have hR := Own.start wr
      go_wp2
      have hR1 := hR.drew
      clear hR
      refine wp_region_mixC (fun W => Own wr W ([])) (fun i => i != 8) [(0, true), (1, true), (2, true), (3, true), (4, true), (5, true), (6, true), (7, false), (8, false)] (by kernel_rfl) (by kernel_rfl) (hR1) ?_
      iterate 5 (refine wpMix_step rfl (fun K hK => ?_); go_simp; (try go_bits); with_reducible refine hK _ ?_; clear hK K)
      refine wpMix_pureW (.agg (c8 y).toArray) rfl rfl (fun W hW => run_load_op 26 (.tmp 89) rfl Try.underlying26 rfl ⟨b, off + m1 * 32, none⟩ rfl _ IY.out (fun i u hi => hW.cell (HAY.out i u hi))) ?_
      refine wpMix_pureW (.agg (c8 d).toArray) rfl rfl (fun W hW => run_load_op 26 (.tmp 11) rfl Try.underlying26 rfl ⟨gd, 0, none⟩ rfl _ ID.out (fun i u hi => hW.cell (HDD.out i u hi))) ?_
      refine wpMix_loudW _ rfl rfl ?_
      go_wp2_with fail
      refine (cn _).mono ?_
      rintro e wE ⟨rfl, hg⟩
      have hR2 := hR1.call hg
      clear hg hR1
      go_wp2_with fail
      refine wpMix_next' (fun _ => hR2) ?_
      have hS5 := hS.call hR2.grown
      refine wpMix_loudW _ rfl rfl ?_
      go_wp2_with (refine wp_storeAgg rfl 26 (.tmp 11) (.tmp 92) rfl gd 0 26 (c8 d) (c8 N) rfl rfl (hS5.row 0 rfl) INN.out FN.out (one8 _) ?_)
      intro wF hr hg hz
      clear hz
      rw [splice_all EN.out] at hr
      have hS6 := hS5.setRow 0 rfl hr hg
      clear hr hg hS5 hS hR2 HDD
      go_wp2_with fail
      refine wpMix_next' (fun h => absurd h (by decide)) ?_
      unfold wpMix
      have hS9 := hS6.turn (i := 1) rfl (rowsE_good w.heap.size 26 (.slice (some ⟨b, off, none⟩) m1 c') (T'.take m1)) (ownsR_cut (hS6.rows 1 rfl) HLE.out) rfl
      clear hS6
      go_wp2
      go_roundw
      case rel => exact ⟨h, N, T'.take m1, by go_num, HK2.out, HNL, HO1, HL62, HC1, hS9⟩
      case measure => have := HK.out; simp [intOf] <;> omega
    · have he : k % 2 = 0 := by omega
      have e1 : (k : Int).tmod 2 = 0 := by rw [Int.tmod_eq_emod_of_nonneg (by omega)]; omega
      have e1' : (k : Int) % 2 = 0 := by omega
      have HRE := Lib.hid (show T' ++ [d] = C by rw [← HR.out, carryL_even T' k d he])
      have HAD := Lib.hid (show L32 [d] from fun z hz => by rw [List.mem_singleton.1 hz]; exact HD.out)
      clear hodd he hR' hc' hh
      obtain ⟨mm, hmm⟩ : ∃ mm, mm = T'.length := ⟨_, rfl⟩
      rw [← hmm] at hS ⊢
      clear hmm
      go_wp2_with (first | (refine wp_load rfl 26 (.tmp 11) rfl Try.underlying26 rfl ⟨gd, 0, none⟩ rfl (c8 d) ID.out (row_all (hS.row 0 rfl)) ?_) | (refine wp_built1 rfl 22 (.tmp 99) rfl 26 Try.underlying22 32 info_za (by omega) (by omega) (c8 d) (by rw [c8_length]; exact HD.out) rfl ?_))
      intro wE hr hg
      have hS2 := hS.new hr hg
      clear hS hr hg
      have hbase := hS2.size
      go_wp2_with (refine wp_appR rfl (.tmp 98) (.tmp 100) 22 rfl 26 Try.underlying22 info_ra T' C rfl (hS2.rows 2 rfl) _ 1 1 [d] rfl HAD.out (by simpa using src_row (hS2.row 0 rfl)) rfl HRE.out.symm (by have := HL63.out; simp; omega) hbase ?_)
      intro v3 wF ho hg hv
      have hS3 := (hS2.appendR 2 rfl ho hg (by first | exact hv | simpa using hv)).tail
      clear hS2 ho hg hv hbase
      obtain ⟨A7, c7, rfl, hR7, hc7⟩ := ownsR_at (hS3.rows 1 rfl) hm2.out
      change Own w wF [rowE gd 26 (c8 d), rowsE w.heap.size 26 (.slice A7 m2 c7) C, rowE g 82 (frC (n + 1) (.slice A5 m2 c5)), rowsE w.heap.size 27 (.slice A5 m2 c5) C] at hS3
      have q0 : (m2 : Int) - 1 = (q1 : Int) := by have := hq1.out; have := hm2.out; omega
      have q2 : (m2 : Int) - 2 = (q1 : Int) - 1 := by omega
      have q3 : (q1 : Int) < (m2 : Int) := by omega
      have q4 : (0 : Int) ≤ (q1 : Int) := by omega
      obtain ⟨b, off, hA, hat⟩ := hR7.at_ q1 (by rw [hq1.out]; omega)
      subst hA
      have hzl := hR7.all.at_ q1 (by rw [hq1.out]; omega)
      rw [hz1.out] at hat hzl
      have HZL := Lib.hid hzl
      have IZ := Lib.hid (info_a32 z hzl)
      have FZ := Lib.hid (show 0 + (c8 z).length ≤ (c8 d).length by rw [c8_length, c8_length, hzl, HD.out]; decide)
      have EZ := Lib.hid (show (c8 z).length = (c8 d).length by rw [c8_length, c8_length, hzl, HD.out])
      have HAZ := Lib.hid hat
      clear hat hzl hR7 hc7
      go_wp2_with (first | (refine wp_load rfl 26 (.tmp 106) rfl Try.underlying26 rfl ⟨b, off + q1 * 32, none⟩ rfl (c8 z) IZ.out HAZ.out ?_) | (refine wp_storeAgg rfl 26 (.tmp 11) (.tmp 107) rfl gd 0 26 (c8 d) (c8 z) rfl rfl (hS3.row 0 rfl) IZ.out FZ.out (one8 _) ?_))
      intro wG hr hg hz
      clear hz
      rw [splice_all EZ.out] at hr
      have hS4 := hS3.setRow 0 rfl hr hg
      clear hr hg hS3
      have HZF := Lib.hid (show z = foldR (C.drop q1) by
        have := foldR_last C (by rw [hq1.out]; omega)
        rw [show C.length - 1 = q1 by rw [hq1.out]; rfl, hz1.out] at this
        exact this.symm)
      go_wp2
      go_loopw [13] (fun iv wr => ∃ (j : Nat) (d : List UInt8), j ≤ q1 ∧ iv = .int .i64 ((j : Int) - 1) ∧ Hid (d.length = 32) ∧ Hid (d = foldR (C.drop j)) ∧ Own w wr [rowE gd 26 (c8 d), rowsE w.heap.size 26 (.slice (some ⟨b, off, none⟩) m2 c7) C, rowE g 82 (frC (n + 1) (.slice A5 m2 c5)), rowsE w.heap.size 27 (.slice A5 m2 c5) C]) (fun iv _ => (intOf iv + 1).toNat)
      case atStart => exact ⟨q1, z, Nat.le_refl _, rfl, HZL, HZF, hS4⟩
      case round =>
        clear hS4 ID HAD
        obtain ⟨j, d2, hj, rfl, HD2, HF, hS⟩ := hrel
        have ID2 := Lib.hid (info_a32 d2 HD2.out)
        cases j with
        | zero =>
          have HE := Lib.hid (show d2 = R by rw [HF.out, List.drop_zero, hRR.out])
          have eqD := eqR
          rw [← HE.out] at eqD
          have HG := Lib.hid hS.grown
          have t9 : ¬ (0 : Int) ≤ -1 := by omega
          have ec : ((n + 1 : Nat) : Int) = (n : Int) + 1 := by omega
          have ksz := fun W h => fsize_any g (n + 1) (.slice A5 m2 c5) W h
          simp only [ec] at ksz
          have HRT : Hid (foldR C = d2) := Lib.hid (by rw [HE.out, hRR.out])
          have krt := fun W h1 h2 => froot_at g (n + 1) m2 c5 A5 C W hm2.out h1 h2 (by rw [hm2.out]; omega)
          rw [HRT.out] at krt
          clear hj
          go_wp2
          have hT := hS.drew
          clear hS
          refine wp_region_mixC (fun W => Own w W _) (fun _ => true) [(0, true), (2, true), (3, true), (1, false), (4, true), (5, true), (6, true), (9, true), (7, false), (8, false), (10, false), (11, true), (12, true), (13, true), (15, true), (14, false), (16, true), (17, true), (18, false)] (by kernel_rfl) (by kernel_rfl) hT ?_
          iterate 3 (refine wpMix_step rfl (fun K hK => ?_); go_simp; (try go_bits); with_reducible refine hK _ ?_; clear hK K)
          refine wpMix_loudW _ rfl rfl ?_
          go_wp2_with fail
          refine (ksz _ (hT.row 2 rfl)).mono ?_
          rintro e w' ⟨rfl, rfl⟩
          go_wp2_with fail
          refine wpMix_next' (fun _ => hT) ?_
          iterate 4 (refine wpMix_step rfl (fun K hK => ?_); go_simp; (try go_bits); with_reducible refine hK _ ?_; clear hK K)
          refine wpMix_loudW _ rfl rfl ?_
          go_wp2_with fail
          refine (ftops_at g (n + 1) m2 c5 A5 C _ hm2.out (hT.row 2 rfl) (own_slice (hT.rows 3 rfl)).2.1 (by rw [hm2.out]; omega)).mono ?_
          rintro e wH ⟨v4, rfl, ho, hg⟩
          obtain ⟨A8, c8', rfl, hR8, hc8⟩ := ownsR_at ho hm2.out
          have hT2 := hT.call hg
          clear hg hT ho
          go_wp2_with fail
          refine wpMix_next' (fun _ => hT2) ?_
          refine wpMix_loudW _ rfl rfl ?_
          go_wp2_with fail
          refine (kfr2 _ _ _ hR8).mono ?_
          rintro e wI ⟨v5, rfl, ho, hg⟩
          obtain ⟨A9, c9, rfl, hR9, hc9⟩ := ownsR_at ho hm2.out
          have hT3 := hT2.call hg
          clear hg hT2 ho hR8 hc8
          go_wp2_with fail
          refine wpMix_next' (fun _ => hT3) ?_
          have hsm := ksm2 _ _ _ _ _ hR9 (own_slice (hT3.rows 1 rfl)).2.1
          refine wpMix_loudW _ rfl rfl ?_
          go_wp2_with fail
          refine (hsm).mono ?_
          rintro e wJ ⟨rfl, hg⟩
          have hT4 := hT3.call hg
          clear hg hT3
          go_wp2_with fail
          refine wpMix_next' (fun _ => hT4) ?_
          clear hR9 hc9
          iterate 3 (refine wpMix_step rfl (fun K hK => ?_); go_simp; (try go_bits); with_reducible refine hK _ ?_; clear hK K)
          refine wpMix_pureW (.agg (c8 d2).toArray) rfl rfl (fun W hW => run_load_op 26 (.tmp 11) rfl Try.underlying26 rfl ⟨gd, 0, none⟩ rfl _ ID2.out (row_all (hW.row 0 rfl))) ?_
          refine wpMix_loudW _ rfl rfl ?_
          go_wp2_with fail
          refine (krt _ (hT4.row 2 rfl) (own_slice (hT4.rows 3 rfl)).2.1).mono ?_
          rintro e wK ⟨rfl, hg⟩
          have hT5 := hT4.call hg
          clear hg hT4
          go_wp2_with fail
          refine wpMix_next' (fun _ => hT5) ?_
          iterate 2 (refine wpMix_step rfl (fun K hK => ?_); go_simp; (try go_bits); with_reducible refine hK _ ?_; clear hK K)
          refine wpMix_loudW _ rfl rfl ?_
          go_wp2_with fail
          refine wpMix_next' (fun _ => hT5) ?_
          unfold wpMix
          go_wp2
          go_ret
          exact ⟨rfl, hT5.grown⟩
        | succ j =>
          have e1 : ((j + 1 : Nat) : Int) - 1 = (j : Int) := by omega
          rw [e1]
          have p0 : (0 : Int) ≤ (j : Int) := by omega
          have p1 : (j : Int) < (m2 : Int) := by omega
          have hjT : j + 1 < C.length := by rw [hq1.out]; omega
          have hR7 := (own_slice (hS.rows 1 rfl)).2.1
          obtain ⟨b2, off2, hA2, hat2⟩ := hR7.at_ j (by omega)
          injection hA2 with hA2
          injection hA2 with hb2 ho2 _
          subst hb2; subst ho2
          have hyl := hR7.all.at_ j (by omega)
          have hfold := foldR_drop C j hjT
          obtain ⟨y, hy⟩ : ∃ y, y = C.getD j [] := ⟨_, rfl⟩
          rw [← hy] at hat2 hyl hfold
          have IY := Lib.hid (info_a32 y hyl)
          have HAY := Lib.hid hat2
          have cn := fun W => rnode_any y d2 W hyl HD2.out
          obtain ⟨N, hN⟩ : ∃ N, N = nodeL y d2 := ⟨_, rfl⟩
          rw [← hN] at cn
          have hNl : N.length = 32 := by rw [hN]; exact nodeL_length _ _
          have HN2 := Lib.hid (show N = foldR (C.drop j) by rw [hN, hfold, ← HF.out])
          have INN := Lib.hid (info_a32 N hNl)
          have FN := Lib.hid (show 0 + (c8 N).length ≤ (c8 d2).length by rw [c8_length, c8_length, hNl, HD2.out]; decide)
          have EN := Lib.hid (show (c8 N).length = (c8 d2).length by rw [c8_length, c8_length, hNl, HD2.out])
          have HNL := Lib.hid hNl
          have HJ := Lib.hid hj
          have hR := Own.start wr
          have HDD := Lib.hid (row_all (hS.row 0 rfl))
          clear hy hyl hat2 hN hNl hj hjT hfold hR7
          go_wp2
          have hR1 := hR.drew
          clear hR
          refine wp_region_mixC (fun W => Own wr W ([])) (fun i => i != 6) [(0, true), (1, true), (2, true), (3, true), (4, true), (5, false), (6, false)] (by kernel_rfl) (by kernel_rfl) (hR1) ?_
          iterate 3 (refine wpMix_step rfl (fun K hK => ?_); go_simp; (try go_bits); with_reducible refine hK _ ?_; clear hK K)
          refine wpMix_pureW (.agg (c8 y).toArray) rfl rfl (fun W hW => run_load_op 26 (.tmp 117) rfl Try.underlying26 rfl ⟨b, off + j * 32, none⟩ rfl _ IY.out (fun i u hi => hW.cell (HAY.out i u hi))) ?_
          refine wpMix_pureW (.agg (c8 d2).toArray) rfl rfl (fun W hW => run_load_op 26 (.tmp 11) rfl Try.underlying26 rfl ⟨gd, 0, none⟩ rfl _ ID2.out (fun i u hi => hW.cell (HDD.out i u hi))) ?_
          refine wpMix_loudW _ rfl rfl ?_
          go_wp2_with fail
          refine (cn _).mono ?_
          rintro e wE2 ⟨rfl, hg⟩
          have hR2 := hR1.call hg
          clear hg hR1
          go_wp2_with fail
          refine wpMix_next' (fun _ => hR2) ?_
          have hS5 := hS.call hR2.grown
          refine wpMix_loudW _ rfl rfl ?_
          go_wp2_with (refine wp_storeAgg rfl 26 (.tmp 11) (.tmp 120) rfl gd 0 26 (c8 d2) (c8 N) rfl rfl (hS5.row 0 rfl) INN.out FN.out (one8 _) ?_)
          intro wF2 hr hg hz
          clear hz
          rw [splice_all EN.out] at hr
          have hS6 := hS5.setRow 0 rfl hr hg
          clear hr hg hS5 hS hR2
          go_wp2_with fail
          refine wpMix_next' (fun h => absurd h (by decide)) ?_
          unfold wpMix
          go_wp2
          go_roundw
          case rel => exact ⟨j, N, by have := HJ.out; omega, by go_num, HNL, HN2, hS6⟩
          case measure => simp [intOf] <;> omega

theorem walk_MerkleLoads (w : World) (n : Int) (wn : (Lit.int .i64 n).wf = true) (A : Option Addr) (l c : Nat) (b : List UInt8) (hn : b.length = l * 32) (hb : Bytes w A b) (hle : l ≤ c) (hr : c * 32 ≤ 140737488351232) (hnil : A = none → c = 0) (leaf : List UInt8) (hl : leaf.length = 32) :
    Calls Try.prog 11 #[.int .i64 n, .slice A l c, .agg (c8 leaf).toArray] w fun e w' => e = .returned (.bool true) ∧ w.grownBy w' none := by
  obtain ⟨T, rfl, rfl, hT⟩ := Rows32.of_flat hn hb hle hnil
  obtain ⟨n0, n1⟩ := of_i64 wn
  have kt := fun W (hg : w.grownBy W none) => to_any A c T W (hT.keep hg) (by omega)
  by_cases hneg : n < 0
  · exact loads_neg w A c T.length T leaf (Lib.hid hl) (Lib.hid rfl) (by omega) kt n hneg
  obtain ⟨k, rfl⟩ : ∃ k : Nat, n = (k : Int) := ⟨n.toNat, by omega⟩
  by_cases hm : T.length ≠ onesL k
  · exact loads_form w A c T.length T leaf (Lib.hid hl) (Lib.hid rfl) (by omega) kt k (onesL k) (by omega) (Lib.hid rfl) hm
  have hmo : T.length = onesL k := by omega
  have kfr := fun A c W (h : Rows32 W A c T) => from_any A c T W h (by omega)
  have ksm : ∀ A c B d W, Rows32 W A c T → Rows32 W B d T → Calls Try.prog 21 #[.slice A T.length c, .slice B T.length d] W fun e w' => e = .returned (.bool true) ∧ W.grownBy w' none := by
    intro A c B d W h1 h2
    have := same_any A B c d T T W h1 h2 (by omega)
    rw [decide_eq_true rfl] at this
    exact this
  by_cases hmax : k = 9223372036854775807
  · exact loads_max w A c T.length T leaf (Lib.hid hl) (Lib.hid rfl) (by omega) kt (Lib.hid hT) kfr ksm k hmax hmo
  have hk : k < 9223372036854775807 := by omega
  have h63 : (carryL T k leaf).length = onesL (k + 1) := carry_ones k T leaf hmo
  have h64 := onesL_le 63 (k + 1) (by omega)
  have hC32 := carryL_32 k T leaf hT.all hl
  obtain ⟨P, x, hPx⟩ := carry_last k T leaf
  obtain ⟨C, hCd⟩ : ∃ C, C = carryL T k leaf := ⟨_, rfl⟩
  rw [← hCd] at h63 hC32 hPx
  have hq : C.length = P.length + 1 := by rw [hPx]; simp
  have hRl := foldR_32 C hC32
  refine loads_main w A c T.length T leaf (Lib.hid hl) (Lib.hid rfl) (by omega) kt (Lib.hid hT) kfr ksm (fun W h => ?_) k P.length hk hmo C (Lib.hid hCd) (Lib.hid hq) C.length (Lib.hid rfl) (by omega) (C.getD P.length []) (Lib.hid rfl) (foldR C) (Lib.hid rfl)
    (fun A c W h => from_any A c C W h (by omega)) (fun A c B d W h1 h2 => ?_) (fun W => by rw [eq_dg W _ _ hRl hRl, decide_eq_true rfl])
  · have := cut_any A c T T.length W h (by omega) (by omega)
    rw [List.take_of_length_le (Nat.le_refl _)] at this
    exact this
  · have := same_any A B c d C C W h1 h2 (by omega)
    rw [decide_eq_true rfl] at this
    exact this
end Go.Proofs.Ytpohjldhbaalbaa
