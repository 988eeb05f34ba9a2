/- The walk of the law MerkleApart. -/
import Derived.Test.YtpohjldhbaalbaaFinds3
import Derived.Test.YtpohjldhbaalbaaMerklePaths
import Derived.Test.YtpohjldhbaalbaaWf
namespace Go.Proofs.Ytpohjldhbaalbaa
set_option linter.unusedVariables false
set_option linter.unusedSimpArgs false
set_option linter.unusedSectionVars false
open Go.RowKit
set_option linter.unusedVariables false

set_option maxRecDepth 100000 in
set_option maxHeartbeats 16000000 in
theorem apart_core (w : World) (A B : Option Addr) (n c l d m q : Nat) (i : Int) (leaf X R : List UInt8) (K Wy P : Way) (j : Nat) (b E S F : Bool) (HL : Hid (leaf.length = 32)) (HX : Hid (X.length = 32)) (HM : Hid (K.length = m)) (HQ : Hid (Wy.length = q)) (HXK : Hid (0 < m → K.getD j [] = X ∧ j < K.length)) (HP : Hid (P.length ≤ 4398046511104))
    (hm : (m : Int) ≤ 70) (hj : 0 < m → (IntKind.u64.wrap i).tmod (m : Int) = (j : Int) ∧ (IntKind.u64.wrap i) % (m : Int) = (j : Int) ∧ (j : Int) < (m : Int) ∧ wrap64 (j : Int) = (j : Int)) (i0 : -9223372036854775808 ≤ i) (i1 : i ≤ 9223372036854775807)
    (kcut1 : ∀ W, w.grownBy W none → Calls Try.prog 13 #[.slice A n c, .int .i64 70] W fun e w' => ∃ v, e = .returned v ∧ OwnsR w' W.heap.size 26 v K ∧ W.grownBy w' none)
    (k1' : ∀ W, w.grownBy W none → Calls Try.prog 13 #[.slice B l d, .int .i64 70] W fun e w' => ∃ v, e = .returned v ∧ OwnsR w' W.heap.size 26 v Wy ∧ W.grownBy w' none)
    (k2 : ∀ A c W, Rows32 W A c Wy → c ≤ 9223372036854775807 → Calls Try.prog 18 #[.slice A q c] W fun e w' => ∃ v, e = .returned v ∧ OwnsR w' W.heap.size 27 v Wy ∧ W.grownBy w' none)
    (k3 : ∀ A c W, Rows32 W A c K → c ≤ 9223372036854775807 → Calls Try.prog 19 #[.slice A m c] W fun e w' => e = .returned (.agg (c8 R).toArray) ∧ W.grownBy w' none)
    (k4 : ∀ A c W, 0 < m → Rows32 W A c Wy → c ≤ 9223372036854775807 → Calls Try.prog 24 #[.agg (c8 R).toArray, .int .i64 (m : Int), .int .i64 (j : Int), .agg (c8 leaf).toArray, .slice A q c] W fun e w' => e = .returned (.bool b) ∧ W.grownBy w' none)
    (k5 : ∀ A c W, 0 < m → Rows32 W A c K → c ≤ 9223372036854775807 → Calls Try.prog 23 #[.slice A m c, .int .i64 (j : Int)] W fun e w' => ∃ v, e = .returned v ∧ OwnsR w' W.heap.size 26 v P ∧ W.grownBy w' none)
    (k6 : ∀ A c B d W, Rows32 W A c Wy → Rows32 W B d P → Calls Try.prog 21 #[.slice A q c, .slice B P.length d] W fun e w' => e = .returned (.bool S) ∧ W.grownBy w' none)
    (k7 : ∀ A c B d W, 0 < m → Rows32 W A c K → Rows32 W B d Wy → c ≤ 9223372036854775807 → d ≤ 9223372036854775807 → Calls Try.prog 27 #[.slice A m c, .int .i64 (j : Int), .agg (c8 leaf).toArray, .slice B q d] W fun e w' => e = .returned (.bool F) ∧ W.grownBy w' none)
    (eX : ∀ W : World, (Op.equalIn 10000 26 (.agg (c8 leaf).toArray) (.agg (c8 X).toArray)).run Try.prog W = .ok E W)
    (H1 : Hid (0 < m → b = false → E = true → S = false)) (H2 : Hid (0 < m → b = true → E = false → F = true)) :
    Calls Try.prog 6 #[.slice A n c, .int .i64 i, .agg (c8 leaf).toArray, .slice B l d] w fun e w' => e = .returned (.bool true) ∧ w.grownBy w' none := by
  have IL := Lib.hid (info_a32 leaf HL.out)
  have IX := Lib.hid (info_a32 X HX.out)
  go_enter Try.func6, Try.ntmps6
  go_wp2_with (refine wp_box (o := ⟨some 6, _, _, _, _, _⟩) rfl 26 (.tmp 2) rfl (c8 leaf) rfl ?_)
  intro w1 hr hg hz
  clear hz
  have hS1 := ((Own.start w)).new hr hg
  clear hr hg
  go_wp2_with fail
  refine (kcut1 _ hS1.grown).mono ?_
  rintro e w2 ⟨v, rfl, ho, hg⟩
  obtain ⟨A1, c1, rfl, hR, hc1⟩ := ownsR_at ho HM.out
  have hS2 := hS1.call hg
  have HR1 := Lib.hid hR
  have HC1 := Lib.hid hc1
  clear hg hS1 ho hR hc1 kcut1
  go_wp2_with fail
  refine (k1' _ hS2.grown).mono ?_
  rintro e w3 ⟨v, rfl, ho, hg⟩
  obtain ⟨A2, c2, rfl, hR, hc2⟩ := ownsR_at ho HQ.out
  have hS3 := hS2.call hg
  have HR2 := Lib.hid hR
  have HR13 := Lib.hid (HR1.out.keep hg)
  have HC2 := Lib.hid hc2
  clear hg hS2 ho hR hc2 k1' HR1
  have HG := Lib.hid hS3.grown
  have HLF := Lib.hid (row_all (hS3.row 0 rfl))
  clear hS3
  have hT := Own.start w3
  go_wp2_with fail
  refine (awake_any _).mono ?_
  rintro e w4 ⟨rfl, hg⟩
  have hT1 := hT.call hg
  clear hg hT
  by_cases h0 : m = 0
  · subst h0
    go_wp2_with fail
    refine (awake_any _).mono ?_
    rintro e w5 ⟨rfl, hg⟩
    have hT2 := hT1.call hg
    clear hg hT1
    go_wp2_with fail
    go_ret
    exact ⟨rfl, grownBy_trans HG.out hT2.grown⟩
  · have hpos : 0 < m := by omega
    obtain ⟨j1, j2, j3, j4⟩ := hj hpos
    obtain ⟨hx1, hx2⟩ := HXK.out hpos
    have HPOS := Lib.hid hpos
    have H1' := Lib.hid (H1.out hpos)
    have H2' := Lib.hid (H2.out hpos)
    have m1 : (0 : Int) < (m : Int) := by omega
    have m2 : decide ((m : Int) = 0) = false := by simp; omega
    have m3 : ((m : Int) == 0) = false := by simp; omega
    have m4 : ¬ (m : Int) = 0 := by omega
    have jj : (0 : Int) ≤ (j : Int) := by omega
    obtain ⟨bx, off, rfl, hat⟩ := HR13.out.at_ j hx2
    rw [hx1] at hat
    have HAT := Lib.hid hat
    clear hat hx1 hx2 H1 H2 HXK hj hpos
    go_wp2
    have hT2 := hT1.drew
    clear hT1
    refine wp_region_mixC (fun W => Own w3 W _) (fun _ => true) [(0, true), (2, true), (3, true), (4, true), (5, true), (6, true), (1, false), (7, false), (8, false), (9, true)] (by kernel_rfl) (by kernel_rfl) hT2 ?_
    iterate 4 (refine wpMix_step rfl (fun K hK => ?_); go_simp; (try go_bits); with_reducible refine hK _ ?_; clear hK K)
    refine wpMix_pureW (.agg (c8 leaf).toArray) rfl rfl (fun W hW => run_load_op 26 (.tmp 6) rfl Try.underlying26 rfl ⟨w.heap.size, 0, none⟩ rfl _ IL.out (fun j u hu => hW.cell (HLF.out j u hu))) ?_
    iterate 1 (refine wpMix_step rfl (fun K hK => ?_); go_simp; (try go_bits); with_reducible refine hK _ ?_; clear hK K)
    refine wpMix_loudW _ rfl rfl ?_
    go_wp2_with fail
    refine (k3 _ _ _ (HR13.out.keep hT2.grown) HC1.out).mono ?_
    rintro e w5 ⟨rfl, hg⟩
    have hT3 := hT2.call hg
    clear hg hT2
    go_wp2_with fail
    refine wpMix_next' (fun _ => hT3) ?_
    refine wpMix_loudW _ rfl rfl ?_
    go_wp2_with fail
    refine (k2 _ _ _ (HR2.out.keep hT3.grown) HC2.out).mono ?_
    rintro e w6 ⟨v, rfl, ho, hg⟩
    obtain ⟨A3, c3, rfl, hR3, hc3⟩ := ownsR_at ho HQ.out
    have hT4 := hT3.call hg
    clear hg hT3 ho
    go_wp2_with fail
    refine wpMix_next' (fun _ => hT4) ?_
    refine wpMix_loudW _ rfl rfl ?_
    go_wp2_with fail
    refine (k4 _ _ _ HPOS.out hR3 hc3).mono ?_
    rintro e w7 ⟨rfl, hg⟩
    have hT5 := hT4.call hg
    clear hg hT4
    go_wp2_with fail
    refine wpMix_next' (fun _ => hT5) ?_
    clear hR3 hc3
    cases b
    · skip
      iterate 1 (refine wpMix_step rfl (fun K hK => ?_); go_simp; (try go_bits); with_reducible refine hK _ ?_; clear hK K)
      unfold wpMix
      go_wp2
      cases E
      · skip
        have hT6 := hT5.drew
        clear hT5
        refine wp_region_mixC (fun W => Own w3 W _) (fun _ => true) [(0, true), (1, true), (2, true), (3, true), (4, true), (5, true), (6, true), (7, true), (8, true), (9, true), (10, true), (11, true), (12, true), (13, true), (14, false)] (by kernel_rfl) (by kernel_rfl) hT6 ?_
        refine wpMix_pureW (.agg (c8 leaf).toArray) rfl rfl (fun W hW => run_load_op 26 (.tmp 6) rfl Try.underlying26 rfl ⟨w.heap.size, 0, none⟩ rfl _ IL.out (fun j u hu => hW.cell (HLF.out j u hu))) ?_
        iterate 3 (refine wpMix_step rfl (fun K hK => ?_); go_simp; (try go_bits); with_reducible refine hK _ ?_; clear hK K)
        refine wpMix_pureW (.agg (c8 X).toArray) rfl rfl (fun W hW => run_load_op 26 (.tmp 41) rfl Try.underlying26 rfl ⟨bx, off + j * 32, none⟩ rfl _ IX.out (fun j u hu => hW.cell (HAT.out j u hu))) ?_
        iterate 9 (refine wpMix_step rfl (fun K hK => ?_); go_simp; (try go_bits); with_reducible refine hK _ ?_; clear hK K)
        refine wpMix_loudW _ rfl rfl ?_
        go_wp2_with fail
        refine wpMix_next' (fun _ => hT6) ?_
        unfold wpMix
        go_wp2
        go_ret
        exact ⟨rfl, grownBy_trans HG.out hT6.grown⟩
      · have HSF := Lib.hid (H1'.out (by trivial) (by trivial))
        have hT6 := hT5.drew
        clear hT5
        refine wp_region_mixC (fun W => Own w3 W _) (fun _ => true) [(0, true), (1, true), (2, true), (3, true), (4, true), (5, true), (6, true), (7, true), (8, true), (9, true), (10, false), (11, false), (12, true), (13, true), (14, false)] (by kernel_rfl) (by kernel_rfl) hT6 ?_
        refine wpMix_pureW (.agg (c8 leaf).toArray) rfl rfl (fun W hW => run_load_op 26 (.tmp 6) rfl Try.underlying26 rfl ⟨w.heap.size, 0, none⟩ rfl _ IL.out (fun j u hu => hW.cell (HLF.out j u hu))) ?_
        iterate 3 (refine wpMix_step rfl (fun K hK => ?_); go_simp; (try go_bits); with_reducible refine hK _ ?_; clear hK K)
        refine wpMix_pureW (.agg (c8 X).toArray) rfl rfl (fun W hW => run_load_op 26 (.tmp 41) rfl Try.underlying26 rfl ⟨bx, off + j * 32, none⟩ rfl _ IX.out (fun j u hu => hW.cell (HAT.out j u hu))) ?_
        iterate 5 (refine wpMix_step rfl (fun K hK => ?_); go_simp; (try go_bits); with_reducible refine hK _ ?_; clear hK K)
        refine wpMix_loudW _ rfl rfl ?_
        go_wp2_with fail
        refine (k5 _ _ _ HPOS.out (HR13.out.keep hT6.grown) HC1.out).mono ?_
        rintro e w8 ⟨v, rfl, ho, hg⟩
        obtain ⟨A4, c4, rfl, hR4, hc4⟩ := ownsR_open ho
        have hT7 := hT6.call hg
        clear hg hT6 ho
        go_wp2_with fail
        refine wpMix_next' (fun _ => hT7) ?_
        have hsame := k6 _ _ _ _ _ (HR2.out.keep hT7.grown) hR4
        rw [HSF.out] at hsame
        refine wpMix_loudW _ rfl rfl ?_
        go_wp2_with fail
        refine (hsame).mono ?_
        rintro e w9 ⟨rfl, hg⟩
        have hT8 := hT7.call hg
        clear hg hT7
        go_wp2_with fail
        refine wpMix_next' (fun _ => hT8) ?_
        iterate 2 (refine wpMix_step rfl (fun K hK => ?_); go_simp; (try go_bits); with_reducible refine hK _ ?_; clear hK K)
        refine wpMix_loudW _ rfl rfl ?_
        go_wp2_with fail
        refine wpMix_next' (fun _ => hT8) ?_
        unfold wpMix
        go_wp2
        go_ret
        exact ⟨rfl, grownBy_trans HG.out hT8.grown⟩
    · skip
      iterate 1 (refine wpMix_step rfl (fun K hK => ?_); go_simp; (try go_bits); with_reducible refine hK _ ?_; clear hK K)
      unfold wpMix
      go_wp2
      cases E
      · have HFT := Lib.hid (H2'.out (by trivial) (by trivial))
        have hT6 := hT5.drew
        clear hT5
        refine wp_region_mixC (fun W => Own w3 W _) (fun _ => true) [(0, true), (1, true), (2, true), (3, true), (4, true), (5, true), (6, true), (7, true), (8, true), (9, true), (10, true), (11, false), (12, true), (13, false)] (by kernel_rfl) (by kernel_rfl) hT6 ?_
        refine wpMix_pureW (.agg (c8 leaf).toArray) rfl rfl (fun W hW => run_load_op 26 (.tmp 6) rfl Try.underlying26 rfl ⟨w.heap.size, 0, none⟩ rfl _ IL.out (fun j u hu => hW.cell (HLF.out j u hu))) ?_
        iterate 3 (refine wpMix_step rfl (fun K hK => ?_); go_simp; (try go_bits); with_reducible refine hK _ ?_; clear hK K)
        refine wpMix_pureW (.agg (c8 X).toArray) rfl rfl (fun W hW => run_load_op 26 (.tmp 55) rfl Try.underlying26 rfl ⟨bx, off + j * 32, none⟩ rfl _ IX.out (fun j u hu => hW.cell (HAT.out j u hu))) ?_
        iterate 4 (refine wpMix_step rfl (fun K hK => ?_); go_simp; (try go_bits); with_reducible refine hK _ ?_; clear hK K)
        refine wpMix_pureW (.agg (c8 leaf).toArray) rfl rfl (fun W hW => run_load_op 26 (.tmp 6) rfl Try.underlying26 rfl ⟨w.heap.size, 0, none⟩ rfl _ IL.out (fun j u hu => hW.cell (HLF.out j u hu))) ?_
        iterate 1 (refine wpMix_step rfl (fun K hK => ?_); go_simp; (try go_bits); with_reducible refine hK _ ?_; clear hK K)
        have hfin := k7 _ _ _ _ _ HPOS.out (HR13.out.keep hT6.grown) (HR2.out.keep hT6.grown) HC1.out HC2.out
        rw [HFT.out] at hfin
        refine wpMix_loudW _ rfl rfl ?_
        go_wp2_with fail
        refine (hfin).mono ?_
        rintro e w8 ⟨rfl, hg⟩
        have hT7 := hT6.call hg
        clear hg hT6
        go_wp2_with fail
        refine wpMix_next' (fun _ => hT7) ?_
        iterate 1 (refine wpMix_step rfl (fun K hK => ?_); go_simp; (try go_bits); with_reducible refine hK _ ?_; clear hK K)
        refine wpMix_loudW _ rfl rfl ?_
        go_wp2_with fail
        refine wpMix_next' (fun _ => hT7) ?_
        unfold wpMix
        go_wp2
        go_ret
        exact ⟨rfl, grownBy_trans HG.out hT7.grown⟩
      · skip
        have hT6 := hT5.drew
        clear hT5
        refine wp_region_mixC (fun W => Own w3 W _) (fun _ => true) [(0, true), (1, true), (2, true), (3, true), (4, true), (5, true), (6, true), (7, true), (8, true), (9, true), (10, true), (11, true), (12, true), (13, false)] (by kernel_rfl) (by kernel_rfl) hT6 ?_
        refine wpMix_pureW (.agg (c8 leaf).toArray) rfl rfl (fun W hW => run_load_op 26 (.tmp 6) rfl Try.underlying26 rfl ⟨w.heap.size, 0, none⟩ rfl _ IL.out (fun j u hu => hW.cell (HLF.out j u hu))) ?_
        iterate 3 (refine wpMix_step rfl (fun K hK => ?_); go_simp; (try go_bits); with_reducible refine hK _ ?_; clear hK K)
        refine wpMix_pureW (.agg (c8 X).toArray) rfl rfl (fun W hW => run_load_op 26 (.tmp 55) rfl Try.underlying26 rfl ⟨bx, off + j * 32, none⟩ rfl _ IX.out (fun j u hu => hW.cell (HAT.out j u hu))) ?_
        iterate 8 (refine wpMix_step rfl (fun K hK => ?_); go_simp; (try go_bits); with_reducible refine hK _ ?_; clear hK K)
        refine wpMix_loudW _ rfl rfl ?_
        go_wp2_with fail
        refine wpMix_next' (fun _ => hT6) ?_
        unfold wpMix
        go_wp2
        go_ret
        exact ⟨rfl, grownBy_trans HG.out hT6.grown⟩
theorem walk_MerkleApart (w : World) (A : Option Addr) (n c : Nat) (b : List UInt8) (hn : b.length = n * 32) (hb : Bytes w A b) (hle : n ≤ c) (hr : c * 32 ≤ 140737488351232) (hnil : A = none → c = 0) (i : Int) (wi : (Lit.int .i64 i).wf = true) (leaf : List UInt8) (hl : leaf.length = 32)
    (B : Option Addr) (l d : Nat) (b2 : List UInt8) (hn2 : b2.length = l * 32) (hb2 : Bytes w B b2) (hle2 : l ≤ d) (hr2 : d * 32 ≤ 140737488351232) (hnil2 : B = none → d = 0) :
    Calls Try.prog 6 #[.slice A n c, .int .i64 i, .agg (c8 leaf).toArray, .slice B l d] w fun e w' => e = .returned (.bool true) ∧ w.grownBy w' none := by
  obtain ⟨L, rfl, rfl, hL⟩ := Rows32.of_flat hn hb hle hnil
  obtain ⟨V, rfl, rfl, hV⟩ := Rows32.of_flat hn2 hb2 hle2 hnil2
  obtain ⟨i0, i1⟩ := of_i64 wi
  have hKl : (L.take 70).length ≤ 70 := by simp; omega
  have hWl : (V.take 70).length ≤ 70 := by simp; omega
  have hK := hL.all.take 70
  have hW := hV.all.take 70
  have c1 := fun W (hg : w.grownBy W none) => cut_any A c L 70 W (hL.keep hg) (by omega) (by omega)
  have c2 := fun W (hg : w.grownBy W none) => cut_any B d V 70 W (hV.keep hg) (by omega) (by omega)
  obtain ⟨K, hKd⟩ : ∃ K, K = L.take 70 := ⟨_, rfl⟩
  obtain ⟨Wy, hWd⟩ : ∃ Wy, Wy = V.take 70 := ⟨_, rfl⟩
  rw [← hKd] at hK hKl c1
  rw [← hWd] at hW hWl c2
  obtain ⟨j, hjd⟩ : ∃ j : Nat, j = ((i % 18446744073709551616) % (K.length : Int)).toNat := ⟨_, rfl⟩
  have hu : IntKind.u64.wrap i = i % 18446744073709551616 := rfl
  have hjf : 0 < K.length → (i % 18446744073709551616) % (K.length : Int) = (j : Int) ∧ j < K.length := fun h => by
    have h1 := Int.emod_nonneg (i % 18446744073709551616) (b := (K.length : Int)) (by omega)
    have h2 := Int.emod_lt_of_pos (i % 18446744073709551616) (b := (K.length : Int)) (by omega)
    omega
  obtain ⟨hP, hPl⟩ := pathL_spec _ K j (Nat.le_refl _) hK
  have hRl := rootL_length K hK
  have hXl : (if j < K.length then K.getD j [] else zeros32).length = 32 := by
    split
    · rename_i h; exact hK.at_ j h
    · simp [zeros32]
  refine apart_core w A B L.length c V.length d K.length Wy.length i leaf (if j < K.length then K.getD j [] else zeros32) (rootL K) K Wy (pathL K j) j (checkL (rootL K) K.length j leaf Wy) (decide (leaf = (if j < K.length then K.getD j [] else zeros32))) (decide (Wy = pathL K j)) (findsL K j leaf Wy)
    (Lib.hid hl) (Lib.hid hXl) (Lib.hid rfl) (Lib.hid rfl) (Lib.hid (fun h => ⟨by rw [if_pos (hjf h).2], (hjf h).2⟩)) (Lib.hid (by omega)) (by omega) (fun h => ?_) i0 i1 c1 c2 (fun A c W h hc => to_any A c Wy W h (by omega))
    (fun A c W h hc => rroot_any _ A c K W (Nat.le_refl _) h hc) (fun A c W hp h hc => check_any K.length j (rootL K) leaf A c Wy W hRl hl h hc (by omega) (hjf hp).2) (fun A c W hp h hc => rpath_any _ A c K j W (Nat.le_refl _) h hc (by omega) (hjf hp).2)
    (fun A c B d W h1 h2 => same_any A B c d _ _ W h1 h2 (by omega)) (fun A c B d W hp h1 h2 hc hd => finds_any _ A c K j leaf B d Wy W (Nat.le_refl _) h1 h2 hc hd hl (hjf hp).2) (fun W => eq_a32 W _ _ hl hXl) (Lib.hid (fun hp hb he => ?_)) (Lib.hid (fun hp hb he => ?_))
  · obtain ⟨h1, h2⟩ := hjf h
    rw [hu]
    refine ⟨?_, h1, by omega, by unfold wrap64; omega⟩
    rw [Int.tmod_eq_emod_of_nonneg (by omega)]; exact h1
  · have hx := of_decide_eq_true he
    rw [if_pos (hjf hp).2] at hx
    refine decide_eq_false fun hs => ?_
    have := check_path (L := K) (hjf hp).2
    rw [← hx, ← hs] at this
    rw [this] at hb
    cases hb
  · have hx := of_decide_eq_false he
    rw [if_pos (hjf hp).2] at hx
    exact finds_other _ K j leaf Wy (Nat.le_refl _) hK hW hl (hjf hp).2 (of_decide_eq_true hb) hx
end Go.Proofs.Ytpohjldhbaalbaa
