/- The contract of Finds, the left side. -/
import Derived.Test.YtpohjldhbaalbaaApart3
namespace Go.Proofs.Ytpohjldhbaalbaa
set_option linter.unusedVariables false
set_option linter.unusedSimpArgs false
set_option linter.unusedSectionVars false
open Go.RowKit
set_option linter.unusedVariables false

set_option maxRecDepth 100000 in
set_option maxHeartbeats 16000000 in
theorem finds_left (w : World) (A A' : Option Addr) (c n h i q q1 e bs offs : Nat) (leaf S D a b : List UInt8) (ok R1 R2 : Bool) (HL : Hid (leaf.length = 32)) (HS : Hid (S.length = 32)) (HD : Hid (D.length = 32)) (HA : Hid (a.length = 32)) (HB : Hid (b.length = 32)) (n2 : (2 : Int) ≤ (n : Int)) (n3 : (n : Int) ≤ 9223372036854775807) (h0 : (0 : Int) ≤ (h : Int)) (hn : (h : Int) ≤ (n : Int)) (hi : (i : Int) < (h : Int)) (hi' : i < h)
    (hq : (0 : Int) < (q : Int)) (hqm : (q : Int) ≤ 9223372036854775807) (hq1 : (q : Int) - 1 = (q1 : Int)) (hqq : (q1 : Int) < (q : Int)) (hqn : q1 < q) (B : Option Addr) (hBe : B = some ⟨bs, offs, none⟩)
    (HAT : Hid (∀ j u, (c8 S)[j]? = some u → w.cell? ((⟨bs, offs + q1 * 32, none⟩ : Addr).add j) = some u))
    (cs : ∀ W, Calls Try.prog 47 #[.int .i64 (n : Int)] W fun e w' => e = .returned (.int .i64 (h : Int)) ∧ w' = W)
    (hto : ∀ W, (Instr.slice 22 (.slice A n c) none (some (.int .i64 (h : Int))) none).run Try.prog W = .ok (.slice A h c) W)
    (hfr : ∀ W, (Instr.slice 22 (.slice A n c) (some (.int .i64 (h : Int))) none none).run Try.prog W = .ok (.slice A' (n - h) (c - h)) W)
    (hlow : ∀ W, (Instr.slice 22 (.slice B q e) none (some (.int .i64 (q1 : Int))) none).run Try.prog W = .ok (.slice B q1 e) W)
    (cu : ∀ W, w.grownBy W none → Calls Try.prog 25 #[.int .i64 (h : Int), .int .i64 (i : Int), .agg (c8 leaf).toArray, .slice B q1 e] W fun e2 w' => ∃ BU ku du, e2 = .returned (.tuple #[.agg (c8 D).toArray, .slice BU ku du, .bool ok]) ∧ W.grownBy w' none)
    (ca : ∀ W, w.grownBy W none → Calls Try.prog 19 #[.slice A h c] W fun e w' => e = .returned (.agg (c8 a).toArray) ∧ W.grownBy w' none)
    (cb : ∀ W, w.grownBy W none → Calls Try.prog 19 #[.slice A' (n - h) (c - h)] W fun e w' => e = .returned (.agg (c8 b).toArray) ∧ W.grownBy w' none)
    (cr : ∀ W, w.grownBy W none → Calls Try.prog 27 #[.slice A h c, .int .i64 (i : Int), .agg (c8 leaf).toArray, .slice B q1 e] W fun e w' => e = .returned (.bool R2) ∧ W.grownBy w' none)
    (HR1 : Hid (apartB (nodeB D S) (nodeB a b) = R1)) :
    Calls Try.prog 27 #[.slice A n c, .int .i64 (i : Int), .agg (c8 leaf).toArray, .slice B q e] w fun e' w' => e' = .returned (.bool (if ok = true then (if D ≠ a ∨ S ≠ b then R1 else R2) else false)) ∧ w.grownBy w' none := by
  subst hBe
  obtain ⟨RES, hRES⟩ : ∃ RES, RES = (if ok = true then (if D ≠ a ∨ S ≠ b then R1 else R2) else false) := ⟨_, rfl⟩
  rw [← hRES]
  have HRES := Lib.hid hRES
  clear hRES
  have IL := Lib.hid (info_a32 leaf HL.out)
  have IS := Lib.hid (info_a32 S HS.out)
  have ID := Lib.hid (info_a32 D HD.out)
  have INO := Lib.hid (info_a32 a HA.out)
  have FS := Lib.hid (show 0 + (c8 S).length ≤ zd.length by rw [c8_length, HS.out]; decide)
  have ES := Lib.hid (show (c8 S).length = zd.length by rw [c8_length, HS.out]; decide)
  have FD := Lib.hid (show 0 + (c8 D).length ≤ zd.length by rw [c8_length, HD.out]; decide)
  have ED := Lib.hid (show (c8 D).length = zd.length by rw [c8_length, HD.out]; decide)
  have FO := Lib.hid (show 0 + (c8 a).length ≤ zd.length by rw [c8_length, HA.out]; decide)
  have EO := Lib.hid (show (c8 a).length = zd.length by rw [c8_length, HA.out]; decide)
  have t1 : decide ((n : Int) < 2) = false := by simp; omega
  have t2 : decide (n < 2) = false := by simp; omega
  have t3 : ¬ n < 2 := by omega
  have t4 : (0 : Int) ≤ (i : Int) := by omega
  have t5 : decide ((q : Int) = 0) = false := by simp; omega
  have t6 : ((q : Int) == 0) = false := by simp; omega
  have t7 : ¬ q = 0 := by omega
  have t8 : (0 : Int) ≤ (q1 : Int) := by omega
  have eD := fun W => eq_a32 W D a HD.out HA.out
  have eS := fun W => eq_a32 W S b HS.out HB.out
  go_enter Try.func27, Try.ntmps27
  go_wp2_with (refine wp_box (o := ⟨some 6, _, _, _, _, _⟩) rfl 26 (.tmp 2) rfl (c8 leaf) rfl ?_)
  intro w1 hr hg hz
  clear hz
  have hS1 := ((Own.start w)).new hr hg
  clear hr hg
  go_wp2_with fail
  refine (cs _).mono ?_
  rintro e' w2 ⟨rfl, rfl⟩
  go_wp2_with (first | (refine wp_load rfl 26 (.tmp 35) rfl Try.underlying26 rfl ⟨bs, offs + q1 * 32, none⟩ rfl (c8 S) IS.out (fun j u hu => hS1.cell (HAT.out j u hu)) ?_) | (refine wp_alloc (o := ⟨some 10, _, _, _, _, _⟩) rfl 26 rfl _ alloc_d32 ?_))
  intro w3 hr hg hz
  clear hz
  have hS3 := hS1.new hr hg
  clear hr hg hS1
  go_wp2_with (refine wp_storeAgg rfl 26 (.tmp 10) (.tmp 36) rfl w2.heap.size 0 26 zd (c8 S) rfl rfl (hS3.row 0 rfl) IS.out FS.out (one8 _) ?_)
  intro w4 hr hg hz
  clear hz
  rw [splice_all ES.out] at hr
  have hS4 := hS3.setRow 0 rfl hr hg
  clear hr hg hS3
  go_wp2_with (first | (refine wp_load rfl 26 (.tmp 6) rfl Try.underlying26 rfl ⟨w.heap.size, 0, none⟩ rfl (c8 leaf) IL.out (row_all (hS4.row 1 rfl)) ?_))
  refine (cu _ hS4.grown).mono ?_
  rintro e' w5 ⟨BU, ku, du, rfl, hg⟩
  have hS5 := hS4.call hg
  clear hg hS4 cu
  go_wp2_with (refine wp_alloc (o := ⟨some 12, _, _, _, _, _⟩) rfl 26 rfl _ alloc_d32 ?_)
  intro w6 hr hg hz
  clear hz
  have hS6 := hS5.new hr hg
  clear hr hg
  clear hS5
  go_wp2_with (refine wp_storeAgg rfl 26 (.tmp 12) (.tmp 51) rfl w5.heap.size 0 26 zd (c8 D) rfl rfl (hS6.row 0 rfl) ID.out FD.out (one8 _) ?_)
  intro w7 hr hg hz
  clear hz
  rw [splice_all ED.out] at hr
  have hS7 := hS6.setRow 0 rfl hr hg
  clear hr hg hS6
  go_wp2_with fail
  refine (ca _ hS7.grown).mono ?_
  rintro e w8 ⟨rfl, hg⟩
  have hS8 := hS7.call hg
  clear hg hS7
  go_wp2_with (refine wp_alloc (o := ⟨some 15, _, _, _, _, _⟩) rfl 26 rfl _ alloc_d32 ?_)
  intro w9 hr hg hz
  clear hz
  have hS9 := hS8.new hr hg
  clear hr hg
  clear hS8
  go_wp2_with (refine wp_storeAgg rfl 26 (.tmp 15) (.tmp 57) rfl w8.heap.size 0 26 zd (c8 a) rfl rfl (hS9.row 0 rfl) INO.out FO.out (one8 _) ?_)
  intro wA hr hg hz
  clear hz
  rw [splice_all EO.out] at hr
  have hSA := hS9.setRow 0 rfl hr hg
  clear hr hg hS9
  go_wp2_with fail
  cases ok
  · have HRX := Lib.hid (show RES = false by rw [HRES.out]; rfl)
    clear HRES
    have hSB := hSA.drew
    clear hSA
    refine wp_region_mixC (fun W => Own w W _) (fun _ => true) [(0, true), (1, true), (2, true), (3, true), (4, true), (5, true), (6, true), (7, true), (8, true), (9, true), (10, true), (11, true), (12, true), (13, true)] (by kernel_rfl) (by kernel_rfl) hSB ?_
    iterate 6 (refine wpMix_step rfl (fun K hK => ?_); go_simp; (try go_bits); with_reducible refine hK _ ?_; clear hK K)
    iterate 6 (refine wpMix_step rfl (fun K hK => ?_); go_simp; rw [if_neg (by intro h; cases h)]; with_reducible refine hK _ ?_; clear hK K)
    iterate 2 (refine wpMix_step rfl (fun K hK => ?_); go_simp; (try go_bits); with_reducible refine hK _ ?_; clear hK K)
    unfold wpMix
    go_wp2
    have hSC := hSB.drew
    clear hSB
    refine wp_region_mixC (fun W => Own w W _) (fun _ => true) [(0, true), (1, true), (2, true), (3, true), (4, true), (5, true), (6, true), (7, true), (8, true), (9, true), (10, false)] (by kernel_rfl) (by kernel_rfl) hSC ?_
    iterate 10 (refine wpMix_step rfl (fun K hK => ?_); go_simp; (try go_bits); with_reducible refine hK _ ?_; clear hK K)
    refine wpMix_loudW _ rfl rfl ?_
    go_wp2_with fail
    refine wpMix_next' (fun _ => hSC) ?_
    unfold wpMix
    go_wp2
    go_ret
    exact ⟨by rw [HRX.out]; rfl, hSC.grown⟩
  · skip
    by_cases hDa : D = a
    · rw [decide_eq_true hDa] at eD
      have HDa := Lib.hid hDa
      clear hDa
      have hSB := hSA.drew
      clear hSA
      refine wp_region_mixC (fun W => Own w W _) (fun _ => true) [(0, true), (1, true), (2, true), (3, true), (4, true), (5, true), (6, true), (7, true), (8, true), (9, true), (10, false), (11, true), (12, true), (13, true)] (by kernel_rfl) (by kernel_rfl) hSB ?_
      iterate 2 (refine wpMix_step rfl (fun K hK => ?_); go_simp; (try go_bits); with_reducible refine hK _ ?_; clear hK K)
      refine wpMix_pureW (.agg (c8 D).toArray) rfl rfl (fun W hW => run_load_op 26 (.tmp 12) rfl Try.underlying26 rfl ⟨w5.heap.size, 0, none⟩ rfl _ ID.out (row_all (hW.row 1 rfl))) ?_
      refine wpMix_pureW (.agg (c8 a).toArray) rfl rfl (fun W hW => run_load_op 26 (.tmp 15) rfl Try.underlying26 rfl ⟨w8.heap.size, 0, none⟩ rfl _ INO.out (row_all (hW.row 0 rfl))) ?_
      iterate 2 (refine wpMix_step rfl (fun K hK => ?_); go_simp; (try go_bits); with_reducible refine hK _ ?_; clear hK K)
      refine wpMix_pureW (.agg (c8 S).toArray) rfl rfl (fun W hW => run_load_op 26 (.tmp 10) rfl Try.underlying26 rfl ⟨w2.heap.size, 0, none⟩ rfl _ IS.out (row_all (hW.row 2 rfl))) ?_
      iterate 3 (refine wpMix_step rfl (fun K hK => ?_); go_simp; (try go_bits); with_reducible refine hK _ ?_; clear hK K)
      refine wpMix_loudW _ rfl rfl ?_
      go_wp2_with fail
      refine (cb _ hSB.grown).mono ?_
      rintro e wC ⟨rfl, hg⟩
      have hSC := hSB.call hg
      clear hg hSB
      go_wp2_with fail
      refine wpMix_next' (fun _ => hSC) ?_
      by_cases hSb : S = b
      · rw [decide_eq_true hSb] at eS
        have HRX := Lib.hid (show RES = R2 by rw [HRES.out]; first | rw [if_pos trivial, if_neg (by rintro (h | h); exact h HDa.out; exact h hSb)] | rw [if_pos rfl, if_neg (by rintro (h | h); exact h HDa.out; exact h hSb)])
        clear HDa hSb HRES
        iterate 3 (refine wpMix_step rfl (fun K hK => ?_); go_simp; (try go_bits); with_reducible refine hK _ ?_; clear hK K)
        unfold wpMix
        go_wp2_with fail
        have hSD := hSC.drew
        clear hSC
        refine wp_region_mixC (fun W => Own w W _) (fun _ => true) [(0, true), (1, true), (2, true), (3, true), (4, true), (5, true), (6, true), (7, true), (8, false), (9, true), (10, false)] (by kernel_rfl) (by kernel_rfl) hSD ?_
        iterate 6 (refine wpMix_step rfl (fun K hK => ?_); go_simp; (try go_bits); with_reducible refine hK _ ?_; clear hK K)
        refine wpMix_pureW (.agg (c8 leaf).toArray) rfl rfl (fun W hW => run_load_op 26 (.tmp 6) rfl Try.underlying26 rfl ⟨w.heap.size, 0, none⟩ rfl _ IL.out (row_all (hW.row 3 rfl))) ?_
        iterate 1 (refine wpMix_step rfl (fun K hK => ?_); go_simp; (try go_bits); with_reducible refine hK _ ?_; clear hK K)
        refine wpMix_loudW _ rfl rfl ?_
        go_wp2_with fail
        refine (cr _ hSD.grown).mono ?_
        rintro e wE ⟨rfl, hg⟩
        have hSE := hSD.call hg
        clear hg hSD
        go_wp2_with fail
        refine wpMix_next' (fun _ => hSE) ?_
        iterate 1 (refine wpMix_step rfl (fun K hK => ?_); go_simp; (try go_bits); with_reducible refine hK _ ?_; clear hK K)
        refine wpMix_loudW _ rfl rfl ?_
        go_wp2_with fail
        refine wpMix_next' (fun _ => hSE) ?_
        unfold wpMix
        go_wp2
        go_ret
        exact ⟨by rw [HRX.out]; rfl, hSE.grown⟩
      · rw [decide_eq_false hSb] at eS
        have HRX := Lib.hid (show RES = R1 by rw [HRES.out]; first | rw [if_pos trivial, if_pos (.inr hSb)] | rw [if_pos rfl, if_pos (.inr hSb)])
        clear HDa hSb HRES
        iterate 3 (refine wpMix_step rfl (fun K hK => ?_); go_simp; (try go_bits); with_reducible refine hK _ ?_; clear hK K)
        unfold wpMix
        go_wp2_with fail
        have hP := hSC.drew
        clear hSC
        refine wp_region_mixC (fun W => Own w W _) (fun _ => true) [(0, true), (1, true), (3, true), (4, true), (5, true), (6, true), (2, false), (7, false), (8, false), (9, false), (10, false)] (by kernel_rfl) (by kernel_rfl) hP ?_
        refine wpMix_pureW (.agg (c8 D).toArray) rfl rfl (fun W hW => run_load_op 26 (.tmp 12) rfl Try.underlying26 rfl ⟨w5.heap.size, 0, none⟩ rfl _ ID.out (row_all (hW.row 1 rfl))) ?_
        refine wpMix_pureW (.agg (c8 S).toArray) rfl rfl (fun W hW => run_load_op 26 (.tmp 10) rfl Try.underlying26 rfl ⟨w2.heap.size, 0, none⟩ rfl _ IS.out (row_all (hW.row 2 rfl))) ?_
        refine wpMix_pureW (.agg (c8 a).toArray) rfl rfl (fun W hW => run_load_op 26 (.tmp 15) rfl Try.underlying26 rfl ⟨w8.heap.size, 0, none⟩ rfl _ INO.out (row_all (hW.row 0 rfl))) ?_
        iterate 3 (refine wpMix_step rfl (fun K hK => ?_); go_simp; (try go_bits); with_reducible refine hK _ ?_; clear hK K)
        refine wpMix_loudW _ rfl rfl ?_
        go_wp2_with fail
        refine (rpair_any D S _ HD.out HS.out).mono ?_
        rintro e' wP ⟨v, rfl, ho, hg⟩
        have hlP : (nodeB D S).length = 65 := by simp [nodeB, HS.out, HD.out]
        obtain ⟨AP, cP, rfl, hbP, _, _⟩ := own_open ho
        rw [hlP]
        have HBP := Lib.hid hbP
        have HLP := Lib.hid hlP
        have hP2 := hP.call hg
        clear hg hP ho hbP hlP
        go_wp2_with fail
        refine wpMix_next' (fun _ => hP2) ?_
        have hZ := Own.start wP
        refine wpMix_loudW _ rfl rfl ?_
        go_wp2_with fail
        refine (cb _ hP2.grown).mono ?_
        rintro e' wQ ⟨rfl, hg⟩
        have hP3 := hP2.call hg
        have hZ2 := hZ.call hg
        clear hg hP2 hZ
        go_wp2_with fail
        refine wpMix_next' (fun _ => hP3) ?_
        refine wpMix_loudW _ rfl rfl ?_
        go_wp2_with fail
        refine (rpair_any a b _ HA.out HB.out).mono ?_
        rintro e' wR ⟨v, rfl, ho, hg⟩
        have hlQ : (nodeB a b).length = 65 := by simp [nodeB, HA.out, HB.out]
        obtain ⟨AQ, cQ, rfl, hbQ, _, _⟩ := own_open ho
        rw [hlQ]
        have HBQ := Lib.hid hbQ
        have HLQ := Lib.hid hlQ
        have hP4 := hP3.call hg
        have hZ3 := hZ2.call hg
        clear hg hP3 hZ2 ho hbQ hlQ
        go_wp2_with fail
        refine wpMix_next' (fun _ => hP4) ?_
        have hap := apart_any AP AQ cP cQ _ _ wR (HBP.out.keep hZ3.grown) HBQ.out HLP.out HLQ.out
        rw [HR1.out] at hap
        clear hZ3
        refine wpMix_loudW _ rfl rfl ?_
        go_wp2_with fail
        refine (hap).mono ?_
        rintro e wS ⟨rfl, hg⟩
        have hP5 := hP4.call hg
        clear hg hP4
        go_wp2_with fail
        refine wpMix_next' (fun _ => hP5) ?_
        refine wpMix_loudW _ rfl rfl ?_
        go_wp2_with fail
        refine wpMix_next' (fun _ => hP5) ?_
        unfold wpMix
        go_wp2
        go_ret
        exact ⟨by rw [HRX.out]; rfl, hP5.grown⟩
    · rw [decide_eq_false hDa] at eD
      have HRX := Lib.hid (show RES = R1 by rw [HRES.out]; first | rw [if_pos trivial, if_pos (.inl hDa)] | rw [if_pos rfl, if_pos (.inl hDa)])
      clear hDa HRES
      have hSB := hSA.drew
      clear hSA
      refine wp_region_mixC (fun W => Own w W _) (fun _ => true) [(0, true), (1, true), (2, true), (3, true), (4, true), (5, true), (6, true), (7, true), (8, true), (9, true), (10, true), (11, true), (12, true), (13, true)] (by kernel_rfl) (by kernel_rfl) hSB ?_
      iterate 2 (refine wpMix_step rfl (fun K hK => ?_); go_simp; (try go_bits); with_reducible refine hK _ ?_; clear hK K)
      refine wpMix_pureW (.agg (c8 D).toArray) rfl rfl (fun W hW => run_load_op 26 (.tmp 12) rfl Try.underlying26 rfl ⟨w5.heap.size, 0, none⟩ rfl _ ID.out (row_all (hW.row 1 rfl))) ?_
      refine wpMix_pureW (.agg (c8 a).toArray) rfl rfl (fun W hW => run_load_op 26 (.tmp 15) rfl Try.underlying26 rfl ⟨w8.heap.size, 0, none⟩ rfl _ INO.out (row_all (hW.row 0 rfl))) ?_
      iterate 10 (refine wpMix_step rfl (fun K hK => ?_); go_simp; (try go_bits); with_reducible refine hK _ ?_; clear hK K)
      unfold wpMix
      go_wp2_with fail
      have hP := hSB.drew
      clear hSB
      refine wp_region_mixC (fun W => Own w W _) (fun _ => true) [(0, true), (1, true), (3, true), (4, true), (5, true), (6, true), (2, false), (7, false), (8, false), (9, false), (10, false)] (by kernel_rfl) (by kernel_rfl) hP ?_
      refine wpMix_pureW (.agg (c8 D).toArray) rfl rfl (fun W hW => run_load_op 26 (.tmp 12) rfl Try.underlying26 rfl ⟨w5.heap.size, 0, none⟩ rfl _ ID.out (row_all (hW.row 1 rfl))) ?_
      refine wpMix_pureW (.agg (c8 S).toArray) rfl rfl (fun W hW => run_load_op 26 (.tmp 10) rfl Try.underlying26 rfl ⟨w2.heap.size, 0, none⟩ rfl _ IS.out (row_all (hW.row 2 rfl))) ?_
      refine wpMix_pureW (.agg (c8 a).toArray) rfl rfl (fun W hW => run_load_op 26 (.tmp 15) rfl Try.underlying26 rfl ⟨w8.heap.size, 0, none⟩ rfl _ INO.out (row_all (hW.row 0 rfl))) ?_
      iterate 3 (refine wpMix_step rfl (fun K hK => ?_); go_simp; (try go_bits); with_reducible refine hK _ ?_; clear hK K)
      refine wpMix_loudW _ rfl rfl ?_
      go_wp2_with fail
      refine (rpair_any D S _ HD.out HS.out).mono ?_
      rintro e' wP ⟨v, rfl, ho, hg⟩
      have hlP : (nodeB D S).length = 65 := by simp [nodeB, HS.out, HD.out]
      obtain ⟨AP, cP, rfl, hbP, _, _⟩ := own_open ho
      rw [hlP]
      have HBP := Lib.hid hbP
      have HLP := Lib.hid hlP
      have hP2 := hP.call hg
      clear hg hP ho hbP hlP
      go_wp2_with fail
      refine wpMix_next' (fun _ => hP2) ?_
      have hZ := Own.start wP
      refine wpMix_loudW _ rfl rfl ?_
      go_wp2_with fail
      refine (cb _ hP2.grown).mono ?_
      rintro e' wQ ⟨rfl, hg⟩
      have hP3 := hP2.call hg
      have hZ2 := hZ.call hg
      clear hg hP2 hZ
      go_wp2_with fail
      refine wpMix_next' (fun _ => hP3) ?_
      refine wpMix_loudW _ rfl rfl ?_
      go_wp2_with fail
      refine (rpair_any a b _ HA.out HB.out).mono ?_
      rintro e' wR ⟨v, rfl, ho, hg⟩
      have hlQ : (nodeB a b).length = 65 := by simp [nodeB, HA.out, HB.out]
      obtain ⟨AQ, cQ, rfl, hbQ, _, _⟩ := own_open ho
      rw [hlQ]
      have HBQ := Lib.hid hbQ
      have HLQ := Lib.hid hlQ
      have hP4 := hP3.call hg
      have hZ3 := hZ2.call hg
      clear hg hP3 hZ2 ho hbQ hlQ
      go_wp2_with fail
      refine wpMix_next' (fun _ => hP4) ?_
      have hap := apart_any AP AQ cP cQ _ _ wR (HBP.out.keep hZ3.grown) HBQ.out HLP.out HLQ.out
      rw [HR1.out] at hap
      clear hZ3
      refine wpMix_loudW _ rfl rfl ?_
      go_wp2_with fail
      refine (hap).mono ?_
      rintro e wS ⟨rfl, hg⟩
      have hP5 := hP4.call hg
      clear hg hP4
      go_wp2_with fail
      refine wpMix_next' (fun _ => hP5) ?_
      refine wpMix_loudW _ rfl rfl ?_
      go_wp2_with fail
      refine wpMix_next' (fun _ => hP5) ?_
      unfold wpMix
      go_wp2
      go_ret
      exact ⟨by rw [HRX.out]; rfl, hP5.grown⟩
end Go.Proofs.Ytpohjldhbaalbaa
