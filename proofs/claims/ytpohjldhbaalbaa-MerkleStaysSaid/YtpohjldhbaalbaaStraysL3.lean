/- The contract of Strays, the left side. -/
import Derived.Test.YtpohjldhbaalbaaDiffer3
import Derived.Test.YtpohjldhbaalbaaRGrow3
namespace Go.Proofs.Ytpohjldhbaalbaa
set_option linter.unusedVariables false
set_option linter.unusedSimpArgs false
set_option linter.unusedSectionVars false
open Go.RowKit
set_option linter.unusedVariables false

set_option maxRecDepth 100000 in
set_option maxHeartbeats 40000000 in
theorem strays_left (w : World) (A A' B B' W BB : Option Addr) (c d e n m h q q1 bs offs kk ee : Nat) (S x y u v ra : List UInt8) (ok whole R1 R2 : Bool) (LS : Hid (S.length = 32)) (Lx : Hid (x.length = 32)) (Ly : Hid (y.length = 32)) (Lu : Hid (u.length = 32)) (Lv : Hid (v.length = 32)) (Lra : Hid (ra.length = 32)) (n1 : (1 : Int) ≤ (n : Int)) (nm : (n : Int) < (m : Int)) (nm' : n < m) (m2 : (2 : Int) ≤ (m : Int)) (m3 : (m : Int) ≤ 9223372036854775807) (h0 : (0 : Int) ≤ (h : Int)) (hn : (h : Int) ≤ (m : Int)) (hm : (n : Int) ≤ (h : Int)) (hm' : n ≤ h)
    (hq : (0 : Int) < (q : Int)) (hqm : (q : Int) ≤ 9223372036854775807) (hq1 : (q : Int) - 1 = (q1 : Int)) (hqq : (q1 : Int) < (q : Int)) (hqn : q1 < q) (hWe : W = some ⟨bs, offs, none⟩)
    (HAT : Hid (∀ j t, (c8 S)[j]? = some t → w.cell? ((⟨bs, offs + q1 * 32, none⟩ : Addr).add j) = some t))
    (cs : ∀ W, Calls Try.prog 47 #[.int .i64 (m : Int)] W fun e w' => e = .returned (.int .i64 (h : Int)) ∧ w' = W)
    (htoB : ∀ W, (Instr.slice 22 (.slice B m d) none (some (.int .i64 (h : Int))) none).run Try.prog W = .ok (.slice B h d) W)
    (hfrB : ∀ W, (Instr.slice 22 (.slice B m d) (some (.int .i64 (h : Int))) none none).run Try.prog W = .ok (.slice B' (m - h) (d - h)) W)
    (hlow : ∀ W', (Instr.slice 22 (.slice W q e) none (some (.int .i64 (q1 : Int))) none).run Try.prog W' = .ok (.slice W q1 e) W')
    (cu : ∀ W, w.grownBy W none → Calls Try.prog 19 #[.slice B h d] W fun e w' => e = .returned (.agg (c8 u).toArray) ∧ W.grownBy w' none)
    (cv : ∀ W, w.grownBy W none → Calls Try.prog 19 #[.slice B' (m - h) (d - h)] W fun e w' => e = .returned (.agg (c8 v).toArray) ∧ W.grownBy w' none)
    (cra : ∀ W, w.grownBy W none → Calls Try.prog 19 #[.slice A n c] W fun e w' => e = .returned (.agg (c8 ra).toArray) ∧ W.grownBy w' none)
    (cg : ∀ W', w.grownBy W' none → Calls Try.prog 28 #[.agg (c8 ra).toArray, .int .i64 (n : Int), .int .i64 (h : Int), .bool whole, .slice W q1 e] W' fun e2 w' => e2 = .returned (.agg (bothC x y (.slice BB kk ee) ok).toArray) ∧ W'.grownBy w' none)
    (cr2 : ∀ W', w.grownBy W' none → Calls Try.prog 32 #[.slice A n c, .slice B h d, .bool whole, .slice W q1 e] W' fun e2 w' => e2 = .returned (.bool R2) ∧ W'.grownBy w' none)
    (HR1 : Hid (apartB (nodeB y S) (nodeB u v) = R1)) :
    Calls Try.prog 32 #[.slice A n c, .slice B m d, .bool whole, .slice W q e] w fun e' w' => e' = .returned (.bool (if ok = true then (if y ≠ u ∨ S ≠ v then R1 else R2) else false)) ∧ w.grownBy w' none := by
  subst hWe
  obtain ⟨RES, hRES⟩ : ∃ RES, RES = (if ok = true then (if y ≠ u ∨ S ≠ v then R1 else R2) else false) := ⟨_, rfl⟩
  rw [← hRES]
  have HRES := Lib.hid hRES
  clear hRES
  have IS := Lib.hid (info_a32 S LS.out)
  have FS := Lib.hid (show 0 + (c8 S).length ≤ zd.length by rw [c8_length, LS.out]; decide)
  have ES := Lib.hid (show (c8 S).length = zd.length by rw [c8_length, LS.out]; decide)
  have Ix := Lib.hid (info_a32 x Lx.out)
  have Fx := Lib.hid (show 0 + (c8 x).length ≤ zd.length by rw [c8_length, Lx.out]; decide)
  have Ex := Lib.hid (show (c8 x).length = zd.length by rw [c8_length, Lx.out]; decide)
  have Iy := Lib.hid (info_a32 y Ly.out)
  have Fy := Lib.hid (show 0 + (c8 y).length ≤ zd.length by rw [c8_length, Ly.out]; decide)
  have Ey := Lib.hid (show (c8 y).length = zd.length by rw [c8_length, Ly.out]; decide)
  have Iu := Lib.hid (info_a32 u Lu.out)
  have Fu := Lib.hid (show 0 + (c8 u).length ≤ zd.length by rw [c8_length, Lu.out]; decide)
  have Eu := Lib.hid (show (c8 u).length = zd.length by rw [c8_length, Lu.out]; decide)
  have Iv := Lib.hid (info_a32 v Lv.out)
  have Fv := Lib.hid (show 0 + (c8 v).length ≤ zd.length by rw [c8_length, Lv.out]; decide)
  have Ev := Lib.hid (show (c8 v).length = zd.length by rw [c8_length, Lv.out]; decide)
  have Ira := Lib.hid (info_a32 ra Lra.out)
  have Fra := Lib.hid (show 0 + (c8 ra).length ≤ zd.length by rw [c8_length, Lra.out]; decide)
  have Era := Lib.hid (show (c8 ra).length = zd.length by rw [c8_length, Lra.out]; decide)
  have lx : (bothC x y (.slice BB kk ee) ok).length = 66 := bothC_length _ _ _ _ Lx.out Ly.out
  have BIx := Lib.hid (info_both _ lx)
  have BFx := Lib.hid (show 0 + (bothC x y (.slice BB kk ee) ok).length ≤ bothZ.length by rw [lx]; decide)
  have BEx := Lib.hid (show (bothC x y (.slice BB kk ee) ok).length = bothZ.length by rw [lx]; decide)
  clear lx
  have eyu := fun W => eq_a32 W y u Ly.out Lu.out
  have eSv := fun W => eq_a32 W S v LS.out Lv.out
  have t1 : decide ((n : Int) = (m : Int)) = false := by simp; omega
  have t2 : ((n : Int) == (m : Int)) = false := by simp; omega
  have t3 : ¬ n = m := by omega
  have t5 : decide ((q : Int) = 0) = false := by simp; omega
  have t6 : ((q : Int) == 0) = false := by simp; omega
  have t7 : ¬ q = 0 := by omega
  have t8 : (0 : Int) ≤ (q1 : Int) := by omega
  have t4 : decide ((n : Int) ≤ (h : Int)) = true := by simp; omega
  have t9 : decide (n ≤ h) = true := by simp; omega
  have hS1 := Own.start w
  go_enter Try.func32, Try.ntmps32
  go_wp2_with fail
  refine (cs _).mono ?_
  rintro e' w2 ⟨rfl, rfl⟩
  go_wp2_with (first | (refine wp_load rfl 26 (.tmp 36) rfl Try.underlying26 rfl ⟨bs, offs + q1 * 32, none⟩ rfl (c8 S) IS.out (fun j t ht => hS1.cell (HAT.out j t ht)) ?_) | (refine wp_alloc (o := ⟨some 10, _, _, _, _, _⟩) rfl 26 rfl _ alloc_d32 ?_))
  intro w3 hr hg hz
  clear hz
  have hS3 := hS1.new hr hg
  clear hr hg hS1
  go_wp2_with (refine wp_storeAgg rfl 26 (.tmp 10) (.tmp 37) rfl w2.heap.size 0 26 zd (c8 S) rfl rfl (hS3.row 0 rfl) IS.out FS.out (one8 _) ?_)
  intro w4 hr hg hz
  clear hz
  rw [splice_all ES.out] at hr
  have hS4 := hS3.setRow 0 rfl hr hg
  clear hr hg hS3
  go_wp2_with fail
  refine (cra _ hS4.grown).mono ?_
  rintro e' w5 ⟨rfl, hg⟩
  have hS5 := hS4.call hg
  clear hg hS4 cra
  go_wp2_with fail
  refine (cg _ hS5.grown).mono ?_
  rintro e' w6 ⟨rfl, hg⟩
  have hS6 := hS5.call hg
  clear hg hS5 cg
  go_wp2_with (refine wp_alloc (o := ⟨some 12, _, _, _, _, _⟩) rfl 50 rfl _ alloc_both ?_)
  intro w7 hr hg hz
  clear hz
  have hS7 := hS6.new hr hg
  clear hr hg
  clear hS6
  go_wp2_with (first | (refine wp_storeAgg rfl 50 (.tmp 12) (.tmp 54) rfl w6.heap.size 0 50 bothZ (bothC x y (.slice BB kk ee) ok) rfl rfl (hS7.row 0 rfl) BIx.out BFx.out (one_both x y BB kk ee ok) ?_))
  intro w8 hr hg hz
  clear hz
  rw [splice_all BEx.out] at hr
  have hS8 := hS7.setRow 0 rfl hr hg
  clear hr hg hS7
  cases ok
  · have HRX := Lib.hid (show RES = false by rw [HRES.out]; rfl)
    clear HRES
    go_wp2_with (first | (refine wp_cell rfl 4 (.tmp 55) rfl Try.underlying4 rfl ⟨w6.heap.size, 65, none⟩ rfl _ (both_ok (hS8.row 0 rfl) Lx.out Ly.out) ?_))
    go_ret
    exact ⟨by rw [HRX.out]; rfl, hS8.grown⟩
  · have HRE := Lib.hid (show RES = (if y ≠ u ∨ S ≠ v then R1 else R2) by rw [HRES.out]; rfl)
    clear HRES
    go_wp2_with (first | (refine wp_cell rfl 4 (.tmp 55) rfl Try.underlying4 rfl ⟨w6.heap.size, 65, none⟩ rfl _ (both_ok (hS8.row 0 rfl) Lx.out Ly.out) ?_))
    have hd := hS8.drew
    clear hS8
    refine wp_region_dag (w0 := w2) (L0 := [rowE w6.heap.size 50 (bothC x y (.slice BB kk ee) true), rowE w2.heap.size 26 (c8 S)]) (fun _ => true) [0, 1, 2, 4, 5, 6] [(3, 61, .val (.agg (c8 u).toArray)), (7, 65, .val (.agg (c8 v).toArray)), (8, 13, .new 26 (zd)), (9, 14, .new 26 (zd))] [10, 11] (by kernel_rfl) (by simp) (by simp) hd (by kernel_rfl) ?_
    simp only [List.map_cons, List.map_nil]
    iterate 6 (refine wpMix_step rfl (fun K hK => ?_); go_simp; (try go_bits); with_reducible refine hK _ ?_; clear hK K)
    change DagGoal _ _ _ _ _ _ _ _ _ _ _
    refine ⟨⟨?_, ?_, ?_, ?_, trivial⟩, ?_⟩
    · refine ⟨_, rfl, rfl, fun f W K hS hK => ?_⟩
      simp only [putsL]
      go_wp2_with fail
      refine (cu _ hS.grown).mono ?_
      rintro e w' ⟨rfl, hg⟩
      go_wp2_with fail
      exact hK _ _ (by kernel_rfl) hg
    · refine ⟨_, rfl, rfl, fun f W K hS hK => ?_⟩
      simp only [putsL]
      go_wp2_with fail
      refine (cv _ hS.grown).mono ?_
      rintro e w' ⟨rfl, hg⟩
      go_wp2_with fail
      exact hK _ _ (by kernel_rfl) hg
    · refine ⟨_, rfl, rfl, fun f W K hS hK => ?_⟩
      simp only [putsL]
      go_wp2_with (refine wp_alloc (o := ⟨some 13, _, _, _, _, _⟩) rfl 26 rfl _ alloc_d32 ?_)
      intro w' hr hg hz
      go_wp2_with fail
      exact hK _ _ (by kernel_rfl) hr hg
    · refine ⟨_, rfl, rfl, fun f W K hS hK => ?_⟩
      simp only [putsL]
      go_wp2_with (refine wp_alloc (o := ⟨some 14, _, _, _, _, _⟩) rfl 26 rfl _ alloc_d32 ?_)
      intro w' hr hg hz
      go_wp2_with fail
      exact hK _ _ (by kernel_rfl) hr hg
    · intro g W hW hD
      have hH0 : Own w2 W [rowE (g 13) 26 zd, rowE (g 14) 26 zd, rowE w6.heap.size 50 (bothC x y (.slice BB kk ee) true), rowE w2.heap.size 26 (c8 S)] := hD
      obtain ⟨g13, hg13⟩ : ∃ g13, g13 = g 13 := ⟨_, rfl⟩
      obtain ⟨g14, hg14⟩ : ∃ g14, g14 = g 14 := ⟨_, rfl⟩
      rw [← hg13, ← hg14] at hH0
      simp only [putsS, List.map_cons, List.map_nil, ← hg13, ← hg14]
      clear hD hW hg13 hg14
      go_simp
      clear hd
      refine wpMix_loudW _ rfl rfl ?_
      go_wp2_with (refine wp_storeAgg rfl 26 (.tmp 13) (.tmp 61) rfl g13 0 26 zd (c8 u) rfl rfl (hH0.row 0 rfl) Iu.out Fu.out (one8 _) ?_)
      intro wd13 hr hg hz
      clear hz
      rw [splice_all Eu.out] at hr
      have hH1 := hH0.setRow 0 rfl hr hg
      clear hr hg hH0
      go_wp2_with fail
      refine wpMix_next' (fun _ => hH1.tail.tail) ?_
      refine wpMix_loudW _ rfl rfl ?_
      go_wp2_with (refine wp_storeAgg rfl 26 (.tmp 14) (.tmp 65) rfl g14 0 26 zd (c8 v) rfl rfl (hH1.row 1 rfl) Iv.out Fv.out (one8 _) ?_)
      intro wd14 hr hg hz
      clear hz
      rw [splice_all Ev.out] at hr
      have hB := hH1.setRow 1 rfl hr hg
      clear hr hg hH1
      go_wp2_with fail
      refine wpMix_next' (fun _ => hB.tail.tail) ?_
      unfold wpMix
      by_cases h1 : y = u
      · rw [decide_eq_true h1] at eyu
        have H1 := Lib.hid h1
        clear h1
        by_cases h2 : S = v
        · rw [decide_eq_true h2] at eSv
          have HRX := Lib.hid (show RES = R2 by rw [HRE.out]; exact if_neg (by rintro (h | h); exact h H1.out; exact h h2))
          clear h2 H1 HRE
          go_wp2_with (first | (refine wp_load rfl 26 (.tmp 66) rfl Try.underlying26 rfl ⟨w6.heap.size, 32, none⟩ rfl (c8 y) Iy.out (both_new (hB.row 2 rfl) Lx.out) ?_) | (refine wp_load rfl 26 (.tmp 13) rfl Try.underlying26 rfl ⟨g13, 0, none⟩ rfl (c8 u) Iu.out (row_all (hB.row 0 rfl)) ?_) | (refine wp_load rfl 26 (.tmp 10) rfl Try.underlying26 rfl ⟨w2.heap.size, 0, none⟩ rfl (c8 S) IS.out (row_all (hB.row 3 rfl)) ?_) | (refine wp_load rfl 26 (.tmp 14) rfl Try.underlying26 rfl ⟨g14, 0, none⟩ rfl (c8 v) Iv.out (row_all (hB.row 1 rfl)) ?_))
          refine (cr2 _ hB.grown).mono ?_
          rintro e' wF ⟨rfl, hg⟩
          have hF := hB.call hg
          clear hg hB
          go_wp2
          go_ret
          exact ⟨by rw [HRX.out]; rfl, hF.grown⟩
        · rw [decide_eq_false h2] at eSv
          have HRX := Lib.hid (show RES = R1 by rw [HRE.out]; exact if_pos (.inr h2))
          clear h2 H1 HRE
          go_wp2_with (first | (refine wp_load rfl 26 (.tmp 66) rfl Try.underlying26 rfl ⟨w6.heap.size, 32, none⟩ rfl (c8 y) Iy.out (both_new (hB.row 2 rfl) Lx.out) ?_) | (refine wp_load rfl 26 (.tmp 13) rfl Try.underlying26 rfl ⟨g13, 0, none⟩ rfl (c8 u) Iu.out (row_all (hB.row 0 rfl)) ?_) | (refine wp_load rfl 26 (.tmp 10) rfl Try.underlying26 rfl ⟨w2.heap.size, 0, none⟩ rfl (c8 S) IS.out (row_all (hB.row 3 rfl)) ?_) | (refine wp_load rfl 26 (.tmp 14) rfl Try.underlying26 rfl ⟨g14, 0, none⟩ rfl (c8 v) Iv.out (row_all (hB.row 1 rfl)) ?_))
          have hP := hB.drew
          clear hB
          refine wp_region_mixC (fun W => Own w2 W _) (fun _ => true) [(0, true), (1, true), (2, true), (4, true), (5, true), (3, false), (6, false), (7, false), (8, false)] (by kernel_rfl) (by kernel_rfl) hP ?_
          iterate 1 (refine wpMix_step rfl (fun K hK => ?_); go_simp; (try go_bits); with_reducible refine hK _ ?_; clear hK K)
          refine wpMix_pureW (.agg (c8 y).toArray) rfl rfl (fun W hW => run_load_op 26 (.tmp 75) rfl Try.underlying26 rfl ⟨w6.heap.size, 32, none⟩ rfl _ Iy.out (both_new (hW.row 2 rfl) Lx.out)) ?_
          refine wpMix_pureW (.agg (c8 S).toArray) rfl rfl (fun W hW => run_load_op 26 (.tmp 10) rfl Try.underlying26 rfl ⟨w2.heap.size, 0, none⟩ rfl _ IS.out (row_all (hW.row 3 rfl))) ?_
          refine wpMix_pureW (.agg (c8 u).toArray) rfl rfl (fun W hW => run_load_op 26 (.tmp 13) rfl Try.underlying26 rfl ⟨g13, 0, none⟩ rfl _ Iu.out (row_all (hW.row 0 rfl))) ?_
          refine wpMix_pureW (.agg (c8 v).toArray) rfl rfl (fun W hW => run_load_op 26 (.tmp 14) rfl Try.underlying26 rfl ⟨g14, 0, none⟩ rfl _ Iv.out (row_all (hW.row 1 rfl))) ?_
          refine wpMix_loudW _ rfl rfl ?_
          go_wp2_with fail
          refine (rpair_any y S _ Ly.out LS.out).mono ?_
          rintro e' wP ⟨vv, rfl, ho, hg⟩
          have hlP : (nodeB y S).length = 65 := by simp [nodeB, Ly.out, LS.out]
          obtain ⟨AP, cP, rfl, hbP, _, _⟩ := own_open ho
          rw [hlP]
          have HBP := Lib.hid hbP
          have HLP := Lib.hid hlP
          have hP2 := hP.call hg
          clear hg hP ho hbP hlP
          go_wp2_with fail
          refine wpMix_next' (fun _ => hP2) ?_
          have hZ := Own.start wP
          refine wpMix_loudW _ rfl rfl ?_
          go_wp2_with fail
          refine (rpair_any u v _ Lu.out Lv.out).mono ?_
          rintro e' wR ⟨vv, rfl, ho, hg⟩
          have hlP : (nodeB u v).length = 65 := by simp [nodeB, Lu.out, Lv.out]
          obtain ⟨AQ, cQ, rfl, hbP, _, _⟩ := own_open ho
          rw [hlP]
          have HBQ := Lib.hid hbP
          have HLQ := Lib.hid hlP
          have hP4 := hP2.call hg
          have hZ3 := hZ.call hg
          clear hg hP2 ho hbP hlP hZ
          go_wp2_with fail
          refine wpMix_next' (fun _ => hP4) ?_
          have hap := apart_any AP AQ cP cQ _ _ wR (HBP.out.keep hZ3.grown) HBQ.out HLP.out HLQ.out
          rw [HR1.out] at hap
          clear hZ3
          refine wpMix_loudW _ rfl rfl ?_
          go_wp2_with fail
          refine (hap).mono ?_
          rintro e wS ⟨rfl, hg⟩
          have hP5 := hP4.call hg
          clear hg hP4
          go_wp2_with fail
          refine wpMix_next' (fun _ => hP5) ?_
          refine wpMix_loudW _ rfl rfl ?_
          go_wp2_with fail
          refine wpMix_next' (fun _ => hP5) ?_
          unfold wpMix
          go_wp2
          go_ret
          exact ⟨by rw [HRX.out]; rfl, hP5.grown⟩
      · rw [decide_eq_false h1] at eyu
        have HRX := Lib.hid (show RES = R1 by rw [HRE.out]; exact if_pos (.inl h1))
        clear h1 HRE
        go_wp2_with (first | (refine wp_load rfl 26 (.tmp 66) rfl Try.underlying26 rfl ⟨w6.heap.size, 32, none⟩ rfl (c8 y) Iy.out (both_new (hB.row 2 rfl) Lx.out) ?_) | (refine wp_load rfl 26 (.tmp 13) rfl Try.underlying26 rfl ⟨g13, 0, none⟩ rfl (c8 u) Iu.out (row_all (hB.row 0 rfl)) ?_) | (refine wp_load rfl 26 (.tmp 10) rfl Try.underlying26 rfl ⟨w2.heap.size, 0, none⟩ rfl (c8 S) IS.out (row_all (hB.row 3 rfl)) ?_) | (refine wp_load rfl 26 (.tmp 14) rfl Try.underlying26 rfl ⟨g14, 0, none⟩ rfl (c8 v) Iv.out (row_all (hB.row 1 rfl)) ?_))
        have hP := hB.drew
        clear hB
        refine wp_region_mixC (fun W => Own w2 W _) (fun _ => true) [(0, true), (1, true), (2, true), (4, true), (5, true), (3, false), (6, false), (7, false), (8, false)] (by kernel_rfl) (by kernel_rfl) hP ?_
        iterate 1 (refine wpMix_step rfl (fun K hK => ?_); go_simp; (try go_bits); with_reducible refine hK _ ?_; clear hK K)
        refine wpMix_pureW (.agg (c8 y).toArray) rfl rfl (fun W hW => run_load_op 26 (.tmp 75) rfl Try.underlying26 rfl ⟨w6.heap.size, 32, none⟩ rfl _ Iy.out (both_new (hW.row 2 rfl) Lx.out)) ?_
        refine wpMix_pureW (.agg (c8 S).toArray) rfl rfl (fun W hW => run_load_op 26 (.tmp 10) rfl Try.underlying26 rfl ⟨w2.heap.size, 0, none⟩ rfl _ IS.out (row_all (hW.row 3 rfl))) ?_
        refine wpMix_pureW (.agg (c8 u).toArray) rfl rfl (fun W hW => run_load_op 26 (.tmp 13) rfl Try.underlying26 rfl ⟨g13, 0, none⟩ rfl _ Iu.out (row_all (hW.row 0 rfl))) ?_
        refine wpMix_pureW (.agg (c8 v).toArray) rfl rfl (fun W hW => run_load_op 26 (.tmp 14) rfl Try.underlying26 rfl ⟨g14, 0, none⟩ rfl _ Iv.out (row_all (hW.row 1 rfl))) ?_
        refine wpMix_loudW _ rfl rfl ?_
        go_wp2_with fail
        refine (rpair_any y S _ Ly.out LS.out).mono ?_
        rintro e' wP ⟨vv, rfl, ho, hg⟩
        have hlP : (nodeB y S).length = 65 := by simp [nodeB, Ly.out, LS.out]
        obtain ⟨AP, cP, rfl, hbP, _, _⟩ := own_open ho
        rw [hlP]
        have HBP := Lib.hid hbP
        have HLP := Lib.hid hlP
        have hP2 := hP.call hg
        clear hg hP ho hbP hlP
        go_wp2_with fail
        refine wpMix_next' (fun _ => hP2) ?_
        have hZ := Own.start wP
        refine wpMix_loudW _ rfl rfl ?_
        go_wp2_with fail
        refine (rpair_any u v _ Lu.out Lv.out).mono ?_
        rintro e' wR ⟨vv, rfl, ho, hg⟩
        have hlP : (nodeB u v).length = 65 := by simp [nodeB, Lu.out, Lv.out]
        obtain ⟨AQ, cQ, rfl, hbP, _, _⟩ := own_open ho
        rw [hlP]
        have HBQ := Lib.hid hbP
        have HLQ := Lib.hid hlP
        have hP4 := hP2.call hg
        have hZ3 := hZ.call hg
        clear hg hP2 ho hbP hlP hZ
        go_wp2_with fail
        refine wpMix_next' (fun _ => hP4) ?_
        have hap := apart_any AP AQ cP cQ _ _ wR (HBP.out.keep hZ3.grown) HBQ.out HLP.out HLQ.out
        rw [HR1.out] at hap
        clear hZ3
        refine wpMix_loudW _ rfl rfl ?_
        go_wp2_with fail
        refine (hap).mono ?_
        rintro e wS ⟨rfl, hg⟩
        have hP5 := hP4.call hg
        clear hg hP4
        go_wp2_with fail
        refine wpMix_next' (fun _ => hP5) ?_
        refine wpMix_loudW _ rfl rfl ?_
        go_wp2_with fail
        refine wpMix_next' (fun _ => hP5) ?_
        unfold wpMix
        go_wp2
        go_ret
        exact ⟨by rw [HRX.out]; rfl, hP5.grown⟩
end Go.Proofs.Ytpohjldhbaalbaa
