/- The walk of the law MerkleFrontiers. -/
import Derived.Test.YtpohjldhbaalbaaRTops3
import Derived.Test.YtpohjldhbaalbaaMerkleLoads
import Derived.Test.YtpohjldhbaalbaaInts
namespace Go.Proofs.Ytpohjldhbaalbaa
set_option linter.unusedVariables false
set_option linter.unusedSimpArgs false
set_option linter.unusedSectionVars false
open Go.RowKit
set_option linter.unusedVariables false

theorem tops_take (K : Way) (k : Nat) (hk : k < K.length) (hl : K.length ≤ 70) : carryL (topsL (K.take k)) k (K.getD k []) = topsL (K.take (k + 1)) := by
  have h63 : (2 : Nat) ^ 63 = 9223372036854775808 := by decide
  have e : K.take (k + 1) = K.take k ++ [K.getD k []] := by rw [List.take_add_one, List.getElem?_eq_getElem hk]; simp [hk]
  have l : (K.take k).length = k := by simp; omega
  have := tops_more (K.take k) (K.getD k []) (by rw [l, h63]; omega)
  rw [l] at this
  rw [this, e]
theorem tops_len (K : Way) (k : Nat) (hk : k ≤ K.length) (hl : K.length ≤ 70) : (topsL (K.take k)).length = onesL k := by
  have h63 : (2 : Nat) ^ 63 = 9223372036854775808 := by decide
  have l : (K.take k).length = k := by simp; omega
  have := tops_ones 63 (K.take k) (by rw [l, h63]; omega)
  rw [l] at this
  exact this
theorem tops_foldR (K : Way) (k : Nat) (hl : K.length ≤ 70) : foldR (topsL (K.take k)) = rootL (K.take k) := by
  have h63 : (2 : Nat) ^ 63 = 9223372036854775808 := by decide
  exact tops_root _ (by rw [h63]; simp; omega)
/-- the block under a slice of the call's own -/
theorem ownsR_block {w : World} {base n c : Nat} {e : TypeId} {A : Option Addr} {L : List (List UInt8)} (h : OwnsR w base e (.slice A n c) L) (h0 : 0 < L.length) : ∃ g cs, A = some ⟨g, 0, none⟩ ∧ Row w g e cs ∧ L.length * 32 ≤ cs.length := by
  obtain ⟨hall, hl, ho⟩ := h
  rcases ho with ⟨hv, hn⟩ | ⟨g, cap, cur, hv, hb, hg, hnc, hcm, hcs, ht⟩
  · omega
  · injection hv with h1 h2 h3
    have hl2 : cur.toList.length = cap * 32 := by simpa using hcs
    exact ⟨g, cur.toList, h1, by simpa [Row] using hg, by rw [hl2]; exact Nat.mul_le_mul_right 32 hnc⟩
set_option maxRecDepth 100000 in
set_option maxHeartbeats 40000000 in
theorem frontiers_core (w : World) (A0 B0 : Option Addr) (l0 c0 m z cz : Nat) (K : Way) (zs : List Bool) (HM : Hid (K.length = m)) (hm : (m : Int) ≤ 70) (HZ : Hid (zs.length = z)) (hz : (z : Int) ≤ 9223372036854775807) (HB : Hid (Bools w B0 zs))
    (kcut : ∀ W, w.grownBy W none → Calls Try.prog 13 #[.slice A0 l0 c0, .int .i64 70] W fun e w' => ∃ v, e = .returned v ∧ OwnsR w' W.heap.size 26 v K ∧ W.grownBy w' none)
    (kroot : ∀ k A c W, k ≤ m → Rows32 W A c (K.take k) → c ≤ 9223372036854775807 → Calls Try.prog 19 #[.slice A k c] W fun e w' => e = .returned (.agg (c8 (rootL (K.take k))).toArray) ∧ W.grownBy w' none)
    (ktops : ∀ k A c W, k ≤ m → Rows32 W A c (K.take k) → c ≤ 9223372036854775807 → Calls Try.prog 42 #[.slice A k c] W fun e w' => ∃ v, e = .returned v ∧ OwnsR w' W.heap.size 26 v (topsL (K.take k)) ∧ W.grownBy w' none)
    (ksame : ∀ (T : Way) A c B d W, T.length ≤ 63 → Rows32 W A c T → Rows32 W B d T → Calls Try.prog 21 #[.slice A T.length c, .slice B T.length d] W fun e w' => e = .returned (.bool true) ∧ W.grownBy w' none) :
    Calls Try.prog 12 #[.slice A0 l0 c0, .slice B0 z cz] w fun e w' => e = .returned (.bool true) ∧ w.grownBy w' none := by
  have HK70 := Lib.hid (show K.length ≤ 70 by rw [HM.out]; omega)
  have hS0 := Own.start w
  go_enter Try.func12, Try.ntmps12
  go_wp2_with fail
  refine (awake_any _).mono ?_
  rintro e w1 ⟨rfl, hg⟩
  have hS1 := hS0.call hg
  clear hg hS0
  go_wp2_with fail
  refine (kcut _ hS1.grown).mono ?_
  rintro e w2 ⟨v, rfl, ho, hg⟩
  obtain ⟨A1, c1, rfl, _, hc1⟩ := ownsR_at ho HM.out
  have HC1 := Lib.hid hc1
  have hS2 := (hS1.madeR ho hg).lower 0 rfl
  clear hS1 ho hg kcut hc1
  go_wp2_with fail
  refine (fnew_any _).mono ?_
  rintro e w3 ⟨g0, rfl, ho⟩
  have hS3 := (hS2.join ho).lower 1 rfl
  clear hS2 ho
  go_wp2
  go_loopw [5, 6] (fun fv iv wr => ∃ (k g : Nat) (v : Value), k ≤ m + 1 ∧ fv = .pointer (some ⟨g, 0, none⟩) ∧ iv = .int .i64 (k : Int) ∧ Own w wr [rowE g 82 (frC (min k m) v), rowsE w.heap.size 27 v (topsL (K.take (min k m))), rowsE w.heap.size 26 (.slice A1 m c1) K]) (fun _ iv _ => m + 1 - (intOf iv).toNat)
  case atStart => exact ⟨0, g0, _, by omega, rfl, rfl, by rw [Nat.zero_min, List.take_zero]; exact hS3⟩
  case round =>
    clear hS3
    obtain ⟨k, g, v, hk, rfl, rfl, hS⟩ := hrel
    by_cases hkm : k ≤ m
    · have p0 : (k : Int) ≤ (m : Int) := by omega
      have p1 : (0 : Int) ≤ (k : Int) := by omega
      have p2 : (k : Int) ≤ 70 := by omega
      rw [Nat.min_eq_left hkm] at hS
      have HKM := Lib.hid hkm
      have htl := tops_len K k (by rw [HM.out]; exact hkm) HK70.out
      have HTL := Lib.hid htl
      have h63 := onesL_le 63 k (by have : (2 : Nat) ^ 63 = 9223372036854775808 := by decide
                                    omega)
      have hfold := tops_foldR K k HK70.out
      have hall := (hS.rows 1 rfl).1
      have krt := fun A c W h1 h2 => kroot k A c W hkm h1 h2
      have ktp := fun A c W h1 h2 => ktops k A c W hkm h1 h2
      have HKA := Lib.hid (hS.rows 2 rfl).1
      have hRl := rootL_length (K.take k) (HKA.out.take k)
      have HNX := Lib.hid (fun h => tops_take K k h HK70.out)
      have htk := fun W => run_to32 Try.underlying22 size_a A1 m c1 k (by have := (own_slice (hS.rows 2 rfl)).2.1.le; have := HM.out; omega) W
      obtain ⟨T, hT⟩ : ∃ T, T = topsL (K.take k) := ⟨_, rfl⟩
      rw [← hT] at hS htl hfold hall HTL
      have HTT := Lib.hid hT
      simp only [← hT] at ktp
      have hNX' : k < K.length → carryL T k (K.getD k []) = topsL (K.take (k + 1)) := by rw [hT]; exact HNX.out
      have HNX2 := Lib.hid hNX'
      obtain ⟨R, hR⟩ : ∃ R, R = rootL (K.take k) := ⟨_, rfl⟩
      rw [← hR] at hfold hRl
      simp only [← hR] at krt
      have HFR := Lib.hid hfold
      have HRL := Lib.hid hRl
      have eqR := fun W => eq_dg W R R hRl hRl
      simp only [decide_true] at eqR
      obtain ⟨t, ht⟩ : ∃ t, t = T.length := ⟨_, rfl⟩
      have HT63 := Lib.hid (show T.length ≤ 63 by omega)
      have ht63 : (t : Int) ≤ 63 := by omega
      have HTN := Lib.hid ht.symm
      have ksm := fun A c B d W h1 h2 => ksame T A c B d W HT63.out h1 h2
      rw [← ht] at ksm
      clear HNX hT hR hfold hRl htl h63 hall ht hkm hNX'
      obtain ⟨A2, c2, rfl, _, _⟩ := ownsR_at (hS.rows 1 rfl) HTN.out
      have HTB := Lib.hid (show T.length ≤ 4398046511104 by have := HT63.out; omega)
      go_wp2_with fail
      refine (ftops_at g k t c2 A2 T _ HTN.out (hS.row 0 rfl) (own_slice (hS.rows 1 rfl)).2.1 HTB.out).mono ?_
      rintro e w5 ⟨v3, rfl, ho, hg⟩
      have hS5 := (hS.madeR ho hg).lower 0 rfl
      clear hS ho hg
      obtain ⟨A3, c3, rfl, _, _⟩ := ownsR_at (hS5.rows 0 rfl) HTN.out
      change Own w w5 [rowsE w.heap.size 27 (.slice A3 t c3) T, rowE g 82 (frC k (.slice A2 t c2)), rowsE w.heap.size 27 (.slice A2 t c2) T, rowsE w.heap.size 26 (.slice A1 m c1) K] at hS5
      have krf := fun W h1 h2 => froot_at g k t c2 A2 T W HTN.out h1 h2 HTB.out
      rw [HFR.out] at krf
      have HC3 := Lib.hid HC1.out
      go_wp2
      have hT := hS5.drew
      clear hS5
      refine wp_region_mixC (fun W => Own w W _) (fun _ => true) [(0, true), (2, true), (1, false), (3, true), (4, true), (5, true), (7, true), (8, true), (9, true), (6, false), (10, false), (11, true), (12, true), (13, true), (14, true), (16, true), (17, true), (18, true), (15, false), (19, false), (20, false), (21, true), (22, true)] (by kernel_rfl) (by kernel_rfl) hT ?_
      iterate 2 (refine wpMix_step rfl (fun K hK => ?_); go_simp; (try go_bits); with_reducible refine hK _ ?_; clear hK K)
      refine wpMix_loudW _ rfl rfl ?_
      go_wp2_with fail
      refine (fsize_any g k _ _ (hT.row 1 rfl)).mono ?_
      rintro e w' ⟨rfl, rfl⟩
      go_wp2_with fail
      refine wpMix_next' (fun _ => hT) ?_
      iterate 6 (refine wpMix_step rfl (fun K hK => ?_); go_simp; (try go_bits); with_reducible refine hK _ ?_; clear hK K)
      refine wpMix_loudW _ rfl rfl ?_
      go_wp2_with fail
      refine (krf _ (hT.row 1 rfl) (own_slice (hT.rows 2 rfl)).2.1).mono ?_
      rintro e w6 ⟨rfl, hg⟩
      have hT2 := hT.call hg
      clear hg hT
      go_wp2_with fail
      refine wpMix_next' (fun _ => hT2) ?_
      have hrk := (own_slice (hT2.rows 3 rfl)).2.1.take k (by rw [HM.out]; exact HKM.out)
      refine wpMix_loudW _ rfl rfl ?_
      go_wp2_with fail
      refine (krt _ _ _ hrk HC1.out).mono ?_
      rintro e w7 ⟨rfl, hg⟩
      have hT3 := hT2.call hg
      clear hg hT2
      go_wp2_with fail
      refine wpMix_next' (fun _ => hT3) ?_
      clear hrk
      iterate 7 (refine wpMix_step rfl (fun K hK => ?_); go_simp; (try go_bits); with_reducible refine hK _ ?_; clear hK K)
      refine wpMix_loudW _ rfl rfl ?_
      go_wp2_with fail
      have kfr := from_any A3 c3 T _ (own_slice (hT3.rows 0 rfl)).2.1 HTB.out
      rw [HTN.out] at kfr
      refine kfr.mono ?_
      rintro e w8 ⟨v4, rfl, ho, hg⟩
      obtain ⟨A4, c4, rfl, hR4, _⟩ := ownsR_at ho HTN.out
      have HR4 := Lib.hid hR4
      have hT4 := hT3.call hg
      clear kfr hg hT3 ho hR4
      go_wp2_with fail
      refine wpMix_next' (fun _ => hT4) ?_
      have hrk := (own_slice (hT4.rows 3 rfl)).2.1.take k (by rw [HM.out]; exact HKM.out)
      refine wpMix_loudW _ rfl rfl ?_
      go_wp2_with fail
      refine (ktp _ _ _ hrk HC1.out).mono ?_
      rintro e w9 ⟨v5, rfl, ho, hg⟩
      obtain ⟨A5, c5, rfl, hR5, _⟩ := ownsR_at ho HTN.out
      have hsm := ksm _ _ _ _ _ (HR4.out.keep hg) hR5
      have hT5 := hT4.call hg
      clear hg hT4 ho hrk hR5 HR4
      go_wp2_with fail
      refine wpMix_next' (fun _ => hT5) ?_
      refine wpMix_loudW _ rfl rfl ?_
      go_wp2_with fail
      refine (hsm).mono ?_
      rintro e wA ⟨rfl, hg⟩
      have hT6 := hT5.call hg
      clear hg hT5
      go_wp2_with fail
      refine wpMix_next' (fun _ => hT6) ?_
      iterate 2 (refine wpMix_step rfl (fun K hK => ?_); go_simp; (try go_bits); with_reducible refine hK _ ?_; clear hK K)
      unfold wpMix
      clear krf ksm krt ktp eqR
      by_cases hkz : k < z
      · have z1 : (k : Int) < (z : Int) := by omega
        obtain ⟨bz, oz, rfl, _, hcz⟩ := (HB.out.keep hT6.grown) (by rw [HZ.out]; omega)
        have hcz' := hcz k (by rw [HZ.out]; exact hkz)
        obtain ⟨y, hy⟩ : ∃ y, y = zs.getD k false := ⟨_, rfl⟩
        rw [← hy] at hcz'
        clear hy hcz hkz
        cases y
        · go_wp2_with (refine wp_cell rfl 4 (.tmp 54) rfl Try.underlying4 rfl ⟨bz, oz + k, none⟩ rfl _ hcz' ?_)
          clear hcz'
          have hV : Own w wA [rowE g 82 (frC k (.slice A2 t c2)), rowsE w.heap.size 27 (.slice A2 t c2) T, rowsE w.heap.size 26 (.slice A1 m c1) K] := hT6.tail
          have HQ : Hid ((0 : Nat) < t → ∃ b cs, A3 = some ⟨b, 0, none⟩ ∧ t * 32 ≤ cs.length ∧ Own w wA (rowE b 27 cs :: [rowE g 82 (frC k (.slice A2 t c2)), rowsE w.heap.size 27 (.slice A2 t c2) T, rowsE w.heap.size 26 (.slice A1 m c1) K])) := Lib.hid fun h0 => by
            obtain ⟨b, cs, hA, hrow, hle⟩ := ownsR_block (hT6.rows 0 rfl) (by rw [HTN.out]; exact h0)
            rw [HTN.out] at hle
            exact ⟨b, cs, hA, hle, hT6.turn (i := 0) rfl (rowE_good b 27 cs) hrow (by rw [hA]; rfl)⟩
          clear hT6
          go_wp2
          go_loopw [10, 68] (fun _ jv wr => ∃ j : Nat, j ≤ t ∧ jv = .int .i64 (j : Int) ∧ Own w wr [rowE g 82 (frC k (.slice A2 t c2)), rowsE w.heap.size 27 (.slice A2 t c2) T, rowsE w.heap.size 26 (.slice A1 m c1) K] ∧ Hid (j < t → ∃ b cs, A3 = some ⟨b, 0, none⟩ ∧ t * 32 ≤ cs.length ∧ Own w wr (rowE b 27 cs :: [rowE g 82 (frC k (.slice A2 t c2)), rowsE w.heap.size 27 (.slice A2 t c2) T, rowsE w.heap.size 26 (.slice A1 m c1) K]))) (fun _ jv _ => t - (intOf jv).toNat)
          case atStart => exact ⟨0, Nat.zero_le _, rfl, hV, HQ⟩
          case round =>
            clear hV HQ
            obtain ⟨j, hj, rfl, hV, HQ⟩ := hrel
            by_cases hjt : j < t
            · have q1 : (j : Int) < (t : Int) := by omega
              obtain ⟨b, cs, hA, hle, hV2⟩ := HQ.out hjt
              subst hA
              have HFT := Lib.hid (show j * 32 + (c8 zeros32).length ≤ cs.length by rw [c8_length]; have : zeros32.length = 32 := rfl; omega)
              have HJ := Lib.hid hjt
              have HLE := Lib.hid hle
              have HSL := Lib.hid (show (splice cs (j * 32) (c8 zeros32)).length = cs.length by have := HFT.out; simp only [splice, List.length_append, List.length_take, List.length_drop]; omega)
              have IZ := Lib.hid (info_dg zeros32 (by simp [zeros32]))
              clear hle hjt hj HQ hV
              go_wp2_with (first | (refine wp_built rfl 27 _ rfl _ rfl (c8 zeros32).toArray built_d0 ?_) | (refine wp_storeAgg rfl 27 (.tmp 74) (.tmp 73) rfl b (j * 32) 27 cs (c8 zeros32) rfl rfl (hV2.row 0 rfl) IZ.out HFT.out (one8 _) ?_))
              intro wS hr hg hz'
              clear hz'
              have hV3 := hV2.setRow 0 rfl hr hg
              clear hr hg hV2
              go_wp2
              go_roundw
              case rel => exact ⟨j + 1, by have := HJ.out; omega, by go_num, hV3.tail, Lib.hid fun _ => ⟨b, _, rfl, by rw [HSL.out]; exact HLE.out, hV3⟩⟩
              case measure => have := HJ.out; simp [intOf] <;> omega
            · obtain rfl : j = t := by omega
              clear hj hjt HQ
              by_cases hkm : k < m
              · have r1 : (k : Int) < (m : Int) := by omega
                have hR1 := (own_slice (hV.rows 2 rfl)).2.1
                obtain ⟨bk, ok, hAk, hat⟩ := hR1.at_ k (by rw [HM.out]; exact hkm)
                subst hAk
                have hxl := hR1.all.at_ k (by rw [HM.out]; exact hkm)
                have hnx := HNX2.out (by rw [HM.out]; exact hkm)
                obtain ⟨X, hX⟩ : ∃ X, X = K.getD k [] := ⟨_, rfl⟩
                rw [← hX] at hat hxl hnx
                have IX := Lib.hid (info_a32 X hxl)
                have HAT := Lib.hid hat
                have HXL := Lib.hid hxl
                have HNE := Lib.hid hnx
                have HKL := Lib.hid hkm
                have HK63 := Lib.hid (show k < 9223372036854775807 by omega)
                clear hR1 hat hxl hnx hX hkm
                go_wp2_with (first | (refine wp_load rfl 26 (.tmp 84) rfl Try.underlying26 rfl ⟨bk, ok + k * 32, none⟩ rfl (c8 X) IX.out HAT.out ?_))
                refine (fadd_any g k w.heap.size _ T X w _ _ hV (Nat.le_refl _) HK63.out HTL.out HXL.out).mono ?_
                rintro e wT ⟨v9, rfl, hV5⟩
                rw [HNE.out] at hV5
                clear hV
                go_wp2
                go_roundw
                case rel => exact ⟨k + 1, g, v9, by have := HKL.out; omega, rfl, by go_num, by rw [Nat.min_eq_left (by have := HKL.out; omega)]; exact hV5⟩
                case measure => have := HKL.out; simp [intOf] <;> omega
              · obtain rfl : k = m := by have := HKM.out; omega
                have r1 : ¬ (k : Int) < (k : Int) := by omega
                clear hkm
                go_wp2
                go_roundw
                case rel => exact ⟨k + 1, g, _, by omega, rfl, by go_num, by rw [Nat.min_eq_right (by omega), ← HTT.out]; exact hV⟩
                case measure => simp [intOf] <;> omega
        · go_wp2_with (refine wp_cell rfl 4 (.tmp 54) rfl Try.underlying4 rfl ⟨bz, oz + k, none⟩ rfl _ hcz' ?_)
          clear hcz'
          have kl := fload_ok k A3 c3 T _ (by have := HKM.out; omega) (own_slice (hT6.rows 0 rfl)).2.1 HTL.out
          rw [HTN.out] at kl
          refine kl.mono ?_
          rintro e wL ⟨gn, vn, rfl, ho⟩
          have hL1 := (hT6.join ho).lower 1 rfl
          clear kl ho hT6
          obtain ⟨A6, c6, rfl, _, _⟩ := ownsR_at (hL1.rows 1 rfl) HTN.out
          have hL2 : Own w wL [rowsE w.heap.size 27 (.slice A3 t c3) T, rowE gn 82 (frC k (.slice A6 t c6)), rowsE w.heap.size 27 (.slice A6 t c6) T, rowsE w.heap.size 26 (.slice A1 m c1) K] := (hL1.sub (List.Sublist.cons_cons _ (List.Sublist.cons_cons _ (List.Sublist.cons_cons _ (List.Sublist.cons _ (List.Sublist.cons _ (List.Sublist.refl _))))))).perm (List.perm_middle (l₁ := [_, _]) (l₂ := [_]) (a := _))
          clear hL1
          have hV : Own w wL [rowE gn 82 (frC k (.slice A6 t c6)), rowsE w.heap.size 27 (.slice A6 t c6) T, rowsE w.heap.size 26 (.slice A1 m c1) K] := hL2.tail
          have HQ : Hid ((0 : Nat) < t → ∃ b cs, A3 = some ⟨b, 0, none⟩ ∧ t * 32 ≤ cs.length ∧ Own w wL (rowE b 27 cs :: [rowE gn 82 (frC k (.slice A6 t c6)), rowsE w.heap.size 27 (.slice A6 t c6) T, rowsE w.heap.size 26 (.slice A1 m c1) K])) := Lib.hid fun h0 => by
            obtain ⟨b, cs, hA, hrow, hle⟩ := ownsR_block (hL2.rows 0 rfl) (by rw [HTN.out]; exact h0)
            rw [HTN.out] at hle
            exact ⟨b, cs, hA, hle, hL2.turn (i := 0) rfl (rowE_good b 27 cs) hrow (by rw [hA]; rfl)⟩
          clear hL2
          go_wp2
          go_loopw [10, 68] (fun _ jv wr => ∃ j : Nat, j ≤ t ∧ jv = .int .i64 (j : Int) ∧ Own w wr [rowE gn 82 (frC k (.slice A6 t c6)), rowsE w.heap.size 27 (.slice A6 t c6) T, rowsE w.heap.size 26 (.slice A1 m c1) K] ∧ Hid (j < t → ∃ b cs, A3 = some ⟨b, 0, none⟩ ∧ t * 32 ≤ cs.length ∧ Own w wr (rowE b 27 cs :: [rowE gn 82 (frC k (.slice A6 t c6)), rowsE w.heap.size 27 (.slice A6 t c6) T, rowsE w.heap.size 26 (.slice A1 m c1) K]))) (fun _ jv _ => t - (intOf jv).toNat)
          case atStart => exact ⟨0, Nat.zero_le _, rfl, hV, HQ⟩
          case round =>
            clear hV HQ
            obtain ⟨j, hj, rfl, hV, HQ⟩ := hrel
            by_cases hjt : j < t
            · have q1 : (j : Int) < (t : Int) := by omega
              obtain ⟨b, cs, hA, hle, hV2⟩ := HQ.out hjt
              subst hA
              have HFT := Lib.hid (show j * 32 + (c8 zeros32).length ≤ cs.length by rw [c8_length]; have : zeros32.length = 32 := rfl; omega)
              have HJ := Lib.hid hjt
              have HLE := Lib.hid hle
              have HSL := Lib.hid (show (splice cs (j * 32) (c8 zeros32)).length = cs.length by have := HFT.out; simp only [splice, List.length_append, List.length_take, List.length_drop]; omega)
              have IZ := Lib.hid (info_dg zeros32 (by simp [zeros32]))
              clear hle hjt hj HQ hV
              go_wp2_with (first | (refine wp_built rfl 27 _ rfl _ rfl (c8 zeros32).toArray built_d0 ?_) | (refine wp_storeAgg rfl 27 (.tmp 74) (.tmp 73) rfl b (j * 32) 27 cs (c8 zeros32) rfl rfl (hV2.row 0 rfl) IZ.out HFT.out (one8 _) ?_))
              intro wS hr hg hz'
              clear hz'
              have hV3 := hV2.setRow 0 rfl hr hg
              clear hr hg hV2
              go_wp2
              go_roundw
              case rel => exact ⟨j + 1, by have := HJ.out; omega, by go_num, hV3.tail, Lib.hid fun _ => ⟨b, _, rfl, by rw [HSL.out]; exact HLE.out, hV3⟩⟩
              case measure => have := HJ.out; simp [intOf] <;> omega
            · obtain rfl : j = t := by omega
              clear hj hjt HQ
              by_cases hkm : k < m
              · have r1 : (k : Int) < (m : Int) := by omega
                have hR1 := (own_slice (hV.rows 2 rfl)).2.1
                obtain ⟨bk, ok, hAk, hat⟩ := hR1.at_ k (by rw [HM.out]; exact hkm)
                subst hAk
                have hxl := hR1.all.at_ k (by rw [HM.out]; exact hkm)
                have hnx := HNX2.out (by rw [HM.out]; exact hkm)
                obtain ⟨X, hX⟩ : ∃ X, X = K.getD k [] := ⟨_, rfl⟩
                rw [← hX] at hat hxl hnx
                have IX := Lib.hid (info_a32 X hxl)
                have HAT := Lib.hid hat
                have HXL := Lib.hid hxl
                have HNE := Lib.hid hnx
                have HKL := Lib.hid hkm
                have HK63 := Lib.hid (show k < 9223372036854775807 by omega)
                clear hR1 hat hxl hnx hX hkm
                go_wp2_with (first | (refine wp_load rfl 26 (.tmp 84) rfl Try.underlying26 rfl ⟨bk, ok + k * 32, none⟩ rfl (c8 X) IX.out HAT.out ?_))
                refine (fadd_any gn k w.heap.size _ T X w _ _ hV (Nat.le_refl _) HK63.out HTL.out HXL.out).mono ?_
                rintro e wT ⟨v9, rfl, hV5⟩
                rw [HNE.out] at hV5
                clear hV
                go_wp2
                go_roundw
                case rel => exact ⟨k + 1, gn, v9, by have := HKL.out; omega, rfl, by go_num, by rw [Nat.min_eq_left (by have := HKL.out; omega)]; exact hV5⟩
                case measure => have := HKL.out; simp [intOf] <;> omega
              · obtain rfl : k = m := by have := HKM.out; omega
                have r1 : ¬ (k : Int) < (k : Int) := by omega
                clear hkm
                go_wp2
                go_roundw
                case rel => exact ⟨k + 1, gn, _, by omega, rfl, by go_num, by rw [Nat.min_eq_right (by omega), ← HTT.out]; exact hV⟩
                case measure => simp [intOf] <;> omega
      · have z1 : ¬ (k : Int) < (z : Int) := by omega
        clear hkz
        have hV : Own w wA [rowE g 82 (frC k (.slice A2 t c2)), rowsE w.heap.size 27 (.slice A2 t c2) T, rowsE w.heap.size 26 (.slice A1 m c1) K] := hT6.tail
        have HQ : Hid ((0 : Nat) < t → ∃ b cs, A3 = some ⟨b, 0, none⟩ ∧ t * 32 ≤ cs.length ∧ Own w wA (rowE b 27 cs :: [rowE g 82 (frC k (.slice A2 t c2)), rowsE w.heap.size 27 (.slice A2 t c2) T, rowsE w.heap.size 26 (.slice A1 m c1) K])) := Lib.hid fun h0 => by
          obtain ⟨b, cs, hA, hrow, hle⟩ := ownsR_block (hT6.rows 0 rfl) (by rw [HTN.out]; exact h0)
          rw [HTN.out] at hle
          exact ⟨b, cs, hA, hle, hT6.turn (i := 0) rfl (rowE_good b 27 cs) hrow (by rw [hA]; rfl)⟩
        clear hT6
        go_wp2
        go_loopw [10, 68] (fun _ jv wr => ∃ j : Nat, j ≤ t ∧ jv = .int .i64 (j : Int) ∧ Own w wr [rowE g 82 (frC k (.slice A2 t c2)), rowsE w.heap.size 27 (.slice A2 t c2) T, rowsE w.heap.size 26 (.slice A1 m c1) K] ∧ Hid (j < t → ∃ b cs, A3 = some ⟨b, 0, none⟩ ∧ t * 32 ≤ cs.length ∧ Own w wr (rowE b 27 cs :: [rowE g 82 (frC k (.slice A2 t c2)), rowsE w.heap.size 27 (.slice A2 t c2) T, rowsE w.heap.size 26 (.slice A1 m c1) K]))) (fun _ jv _ => t - (intOf jv).toNat)
        case atStart => exact ⟨0, Nat.zero_le _, rfl, hV, HQ⟩
        case round =>
          clear hV HQ
          obtain ⟨j, hj, rfl, hV, HQ⟩ := hrel
          by_cases hjt : j < t
          · have q1 : (j : Int) < (t : Int) := by omega
            obtain ⟨b, cs, hA, hle, hV2⟩ := HQ.out hjt
            subst hA
            have HFT := Lib.hid (show j * 32 + (c8 zeros32).length ≤ cs.length by rw [c8_length]; have : zeros32.length = 32 := rfl; omega)
            have HJ := Lib.hid hjt
            have HLE := Lib.hid hle
            have HSL := Lib.hid (show (splice cs (j * 32) (c8 zeros32)).length = cs.length by have := HFT.out; simp only [splice, List.length_append, List.length_take, List.length_drop]; omega)
            have IZ := Lib.hid (info_dg zeros32 (by simp [zeros32]))
            clear hle hjt hj HQ hV
            go_wp2_with (first | (refine wp_built rfl 27 _ rfl _ rfl (c8 zeros32).toArray built_d0 ?_) | (refine wp_storeAgg rfl 27 (.tmp 74) (.tmp 73) rfl b (j * 32) 27 cs (c8 zeros32) rfl rfl (hV2.row 0 rfl) IZ.out HFT.out (one8 _) ?_))
            intro wS hr hg hz'
            clear hz'
            have hV3 := hV2.setRow 0 rfl hr hg
            clear hr hg hV2
            go_wp2
            go_roundw
            case rel => exact ⟨j + 1, by have := HJ.out; omega, by go_num, hV3.tail, Lib.hid fun _ => ⟨b, _, rfl, by rw [HSL.out]; exact HLE.out, hV3⟩⟩
            case measure => have := HJ.out; simp [intOf] <;> omega
          · obtain rfl : j = t := by omega
            clear hj hjt HQ
            by_cases hkm : k < m
            · have r1 : (k : Int) < (m : Int) := by omega
              have hR1 := (own_slice (hV.rows 2 rfl)).2.1
              obtain ⟨bk, ok, hAk, hat⟩ := hR1.at_ k (by rw [HM.out]; exact hkm)
              subst hAk
              have hxl := hR1.all.at_ k (by rw [HM.out]; exact hkm)
              have hnx := HNX2.out (by rw [HM.out]; exact hkm)
              obtain ⟨X, hX⟩ : ∃ X, X = K.getD k [] := ⟨_, rfl⟩
              rw [← hX] at hat hxl hnx
              have IX := Lib.hid (info_a32 X hxl)
              have HAT := Lib.hid hat
              have HXL := Lib.hid hxl
              have HNE := Lib.hid hnx
              have HKL := Lib.hid hkm
              have HK63 := Lib.hid (show k < 9223372036854775807 by omega)
              clear hR1 hat hxl hnx hX hkm
              go_wp2_with (first | (refine wp_load rfl 26 (.tmp 84) rfl Try.underlying26 rfl ⟨bk, ok + k * 32, none⟩ rfl (c8 X) IX.out HAT.out ?_))
              refine (fadd_any g k w.heap.size _ T X w _ _ hV (Nat.le_refl _) HK63.out HTL.out HXL.out).mono ?_
              rintro e wT ⟨v9, rfl, hV5⟩
              rw [HNE.out] at hV5
              clear hV
              go_wp2
              go_roundw
              case rel => exact ⟨k + 1, g, v9, by have := HKL.out; omega, rfl, by go_num, by rw [Nat.min_eq_left (by have := HKL.out; omega)]; exact hV5⟩
              case measure => have := HKL.out; simp [intOf] <;> omega
            · obtain rfl : k = m := by have := HKM.out; omega
              have r1 : ¬ (k : Int) < (k : Int) := by omega
              clear hkm
              go_wp2
              go_roundw
              case rel => exact ⟨k + 1, g, _, by omega, rfl, by go_num, by rw [Nat.min_eq_right (by omega), ← HTT.out]; exact hV⟩
              case measure => simp [intOf] <;> omega
    · obtain rfl : k = m + 1 := by omega
      have p0 : ¬ ((m + 1 : Nat) : Int) ≤ (m : Int) := by omega
      have p1 : ((m + 1 : Nat) : Int) = (m : Int) + 1 := by omega
      clear hk hkm
      go_wp2
      go_ret
      exact ⟨rfl, hS.grown⟩

theorem walk_MerkleFrontiers (w : World) (A : Option Addr) (n c : Nat) (b : List UInt8) (hn : b.length = n * 32) (hb : Bytes w A b) (hle : n ≤ c) (hr : c * 32 ≤ 140737488351232) (hnil : A = none → c = 0)
    (B : Option Addr) (d : Nat) (z : List Bool) (hz : Bools w B z) (hle2 : z.length ≤ d) (hr2 : d ≤ 140737488351232) :
    Calls Try.prog 12 #[.slice A n c, .slice B z.length d] w fun e w' => e = .returned (.bool true) ∧ w.grownBy w' none := by
  obtain ⟨L, rfl, rfl, hL⟩ := Rows32.of_flat hn hb hle hnil
  have hKl : (L.take 70).length ≤ 70 := by simp; omega
  have c1 := fun W (hg : w.grownBy W none) => cut_any A c L 70 W (hL.keep hg) (by omega) (by omega)
  obtain ⟨K, hKd⟩ : ∃ K, K = L.take 70 := ⟨_, rfl⟩
  rw [← hKd] at hKl c1
  refine frontiers_core w A B L.length c K.length z.length d K z (Lib.hid rfl) (by omega) (Lib.hid rfl) (by omega) (Lib.hid hz) c1 (fun k A c W hk h hc => ?_) (fun k A c W hk h hc => ?_) (fun T A c B d W hT h1 h2 => ?_)
  · have := rroot_any _ A c (K.take k) W (Nat.le_refl _) h hc
    rw [show (K.take k).length = k by simp; omega] at this
    exact this
  · have := rtops_any A c (K.take k) W h hc (by simp; omega)
    rw [show (K.take k).length = k by simp; omega] at this
    exact this
  · have := same_any A B c d T T W h1 h2 (by omega)
    rw [decide_eq_true rfl] at this
    exact this
end Go.Proofs.Ytpohjldhbaalbaa
