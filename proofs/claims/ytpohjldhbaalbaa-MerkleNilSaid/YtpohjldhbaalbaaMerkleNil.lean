/- The walk of the law MerkleNil. -/
import Derived.Test.YtpohjldhbaalbaaFrontMore
namespace Go.Proofs.Ytpohjldhbaalbaa
set_option linter.unusedVariables false
set_option linter.unusedSimpArgs false
set_option linter.unusedSectionVars false
open Go.RowKit
set_option linter.unusedVariables false

set_option maxRecDepth 100000 in
set_option maxHeartbeats 16000000 in
theorem nil_core (w : World) (A : Option Addr) (n c m : Nat) (K : Way) (HM : Hid (K.length = m)) (hm : (m : Int) ≤ 70)
    (kcut : ∀ W, w.grownBy W none → Calls Try.prog 13 #[.slice A n c, .int .i64 70] W fun e w' => ∃ v, e = .returned v ∧ OwnsR w' W.heap.size 26 v K ∧ W.grownBy w' none) :
    Calls Try.prog 9 #[.slice A n c] w fun e w' => e = .returned (.bool true) ∧ w.grownBy w' none := by
  have hroot := fun W => root_empty none 0 W
  have hZl := sha_length []
  have hf0 : foldR [] = sha [] := rfl
  have fr1 := fun W => froot_none (.pointer none) 0 0 0 none W (.inl rfl)
  have fr2 := fun g W (h : Row W g 82 (frC 0 (.slice none 0 0))) => froot_none (.pointer (some ⟨g, 0, none⟩)) g 0 0 none W (.inr ⟨rfl, h⟩)
  rw [rootL_nil] at hroot
  rw [hf0] at fr1
  simp only [hf0] at fr2
  obtain ⟨Z, hZ⟩ : ∃ Z, Z = sha [] := ⟨_, rfl⟩
  rw [← hZ] at hroot hZl fr1
  simp only [← hZ] at fr2
  have eqZ := fun W => eq_dg W Z Z hZl hZl
  simp only [decide_true] at eqZ
  have HKK := Lib.hid (show K.length ≤ 70 by rw [HM.out]; omega)
  clear hZ hf0 hZl
  have hS0 := Own.start w
  go_enter Try.func9, Try.ntmps9
  go_wp2_with fail
  refine (fnew_any _).mono ?_
  rintro e w1 ⟨gf, rfl, ho⟩
  have hS1 := (hS0.join ho).lower 1 rfl
  clear hS0 ho
  go_wp2_with fail
  refine (fnew_any _).mono ?_
  rintro e w2 ⟨gg, rfl, ho⟩
  have hS2 := (hS1.join ho).lower 1 rfl
  clear hS1 ho
  go_wp2_with fail
  refine (kcut _ hS2.grown).mono ?_
  rintro e w3 ⟨v, rfl, ho, hg⟩
  obtain ⟨A1, c1, rfl, _, _⟩ := ownsR_at ho HM.out
  have hS3 := (hS2.madeR ho hg).lower 0 rfl
  clear hS2 ho hg kcut
  have hS4 : Own w w3 [rowE gf 82 (frC 0 (.slice none 0 0)), rowsE w.heap.size 27 (.slice none 0 0) [], rowsE w.heap.size 26 (.slice A1 m c1) K, rowE gg 82 (frC 0 (.slice none 0 0)), rowsE w.heap.size 27 (.slice none 0 0) []] := hS3.perm (by
    refine (List.perm_append_comm (l₁ := [_, _, _]) (l₂ := [_, _])).trans ?_
    exact List.Perm.refl _)
  clear hS3
  go_wp2
  go_loopw [13] (fun iv wr => ∃ (k : Nat) (v' : Value) (T' : Way), k ≤ m ∧ iv = .int .i64 (k : Int) ∧ Hid (T'.length = onesL k) ∧ Own w wr [rowE gf 82 (frC k v'), rowsE w.heap.size 27 v' T', rowsE w.heap.size 26 (.slice A1 m c1) K, rowE gg 82 (frC 0 (.slice none 0 0)), rowsE w.heap.size 27 (.slice none 0 0) []]) (fun iv _ => m - (intOf iv).toNat)
  case atStart => exact ⟨0, _, [], Nat.zero_le _, rfl, Lib.hid (by rw [onesL_zero]; rfl), hS4⟩
  case round =>
    clear hS4
    obtain ⟨k, v', T', hk, rfl, HO, hS⟩ := hrel
    by_cases hlt : k < m
    · have q1 : (k : Int) < (m : Int) := by omega
      have hR := (own_slice (hS.rows 2 rfl)).2.1
      obtain ⟨b, off, hA, hat⟩ := hR.at_ k (by rw [HM.out]; exact hlt)
      subst hA
      have hxl := hR.all.at_ k (by rw [HM.out]; exact hlt)
      obtain ⟨X, hX⟩ : ∃ X, X = K.getD k [] := ⟨_, rfl⟩
      rw [← hX] at hat hxl
      have HAT := Lib.hid hat
      have HXL := Lib.hid hxl
      have IX := Lib.hid (info_a32 X hxl)
      have FX := Lib.hid (show 0 + (c8 X).length ≤ zd.length by rw [c8_length, hxl]; decide)
      have EX := Lib.hid (show (c8 X).length = zd.length by rw [c8_length, hxl]; decide)
      have HK := Lib.hid (show k < m from hlt)
      have HK2 := Lib.hid (show k < 9223372036854775807 by omega)
      clear hat hxl hX hlt hk hR
      go_wp2_with (first | (refine wp_load rfl 26 (.tmp 15) rfl Try.underlying26 rfl ⟨b, off + k * 32, none⟩ rfl (c8 X) IX.out HAT.out ?_) | (refine wp_alloc (o := ⟨some 7, _, _, _, _, _⟩) rfl 26 rfl _ alloc_d32 ?_))
      intro w5 hr hg hz
      clear hz
      have hS5 := hS.new hr hg
      clear hr hg hS
      go_wp2_with (refine wp_storeAgg rfl 26 (.tmp 7) (.tmp 16) rfl wr.heap.size 0 26 zd (c8 X) rfl rfl (hS5.row 0 rfl) IX.out FX.out (one8 _) ?_)
      intro w6 hr hg hz
      clear hz
      rw [splice_all EX.out] at hr
      have hS6 := hS5.setRow 0 rfl hr hg
      clear hS5 hr hg
      go_wp2_with (first | (refine wp_load rfl 26 (.tmp 7) rfl Try.underlying26 rfl ⟨wr.heap.size, 0, none⟩ rfl (c8 X) IX.out (row_all (hS6.row 0 rfl)) ?_))
      refine (fadd_any gf k w.heap.size v' T' X w _ _ hS6.tail (Nat.le_refl _) HK2.out HO.out HXL.out).mono ?_
      rintro e w7 ⟨v2, rfl, hS7⟩
      clear hS6
      have HO2 := Lib.hid (carry_ones k T' X HO.out)
      go_wp2
      go_roundw
      case rel => exact ⟨k + 1, v2, carryL T' k X, by have := HK.out; omega, by go_num, HO2, hS7⟩
      case measure => have := HK.out; simp [intOf] <;> omega
    · obtain rfl : k = m := by omega
      have hS8 : Own w wr [rowE gg 82 (frC 0 (.slice none 0 0))] := hS.sub (by
        refine List.Sublist.cons _ (List.Sublist.cons _ (List.Sublist.cons _ (List.Sublist.cons_cons _ ?_)))
        exact List.nil_sublist _)
      clear hlt hk hS
      go_wp2_with fail
      refine (awake_any _).mono ?_
      rintro e w5 ⟨rfl, hg⟩
      have hS9 := hS8.call hg
      clear hS8 hg
      go_wp2_with (first | (refine wp_built rfl 27 _ rfl _ rfl (c8 zeros32).toArray built_d0 ?_))
      refine (fadd_nil zeros32 _).mono ?_
      rintro e w6 ⟨rfl, hg⟩
      have hSA := hS9.call hg
      clear hS9 hg
      go_wp2_with fail
      refine (fsize_nil _).mono ?_
      rintro e w6' ⟨rfl, rfl⟩
      go_wp2_with fail
      refine (ftops_nil _).mono ?_
      rintro e w6' ⟨rfl, rfl⟩
      go_wp2_with fail
      refine (fr1 _).mono ?_
      rintro e w7 ⟨rfl, hg⟩
      have hSB := hSA.call hg
      clear hSA hg
      go_wp2_with fail
      refine (hroot _).mono ?_
      rintro e w8 ⟨rfl, hg⟩
      have hSC := hSB.call hg
      clear hSB hg
      go_wp2_with fail
      refine (fsize_any gg 0 _ _ (hSC.row 0 rfl)).mono ?_
      rintro e w6' ⟨rfl, rfl⟩
      go_wp2_with fail
      refine (fr2 gg _ (hSC.row 0 rfl)).mono ?_
      rintro e w9 ⟨rfl, hg⟩
      have hSD := hSC.call hg
      clear hSC hg
      go_wp2_with fail
      refine (hroot _).mono ?_
      rintro e w10 ⟨rfl, hg⟩
      have hSE := hSD.call hg
      clear hSD hg
      go_wp2
      go_ret
      exact ⟨rfl, hSE.grown⟩
theorem walk_MerkleNil (w : World) (A : Option Addr) (n c : Nat) (b : List UInt8) (hn : b.length = n * 32) (hb : Bytes w A b) (hle : n ≤ c) (hr : c * 32 ≤ 140737488351232) (hnil : A = none → c = 0) :
    Calls Try.prog 9 #[.slice A n c] w fun e w' => e = .returned (.bool true) ∧ w.grownBy w' none := by
  obtain ⟨L, rfl, rfl, hL⟩ := Rows32.of_flat hn hb hle hnil
  have hK : (L.take 70).length ≤ 70 := by simp; omega
  exact nil_core w A L.length c (L.take 70).length (L.take 70) (Lib.hid rfl) (by omega) (fun W hg => cut_any A c L 70 W (hL.keep hg) (by omega) (by omega))
end Go.Proofs.Ytpohjldhbaalbaa
