/- The contract of Strays, the right side. -/
import Derived.Test.YtpohjldhbaalbaaDiffer3
import Derived.Test.YtpohjldhbaalbaaRGrow3
namespace Go.Proofs.Ytpohjldhbaalbaa
set_option linter.unusedVariables false
set_option linter.unusedSimpArgs false
set_option linter.unusedSectionVars false
open Go.RowKit
set_option linter.unusedVariables false
theorem built_a32 : Try.prog.built 26 [] = some (c8 zeros32).toArray := by kernel_rfl

set_option maxRecDepth 100000 in
set_option maxHeartbeats 40000000 in
theorem strays_right (w : World) (A A' B B' W BB : Option Addr) (c d e n m h q q1 bs offs kk ee : Nat) (S x y u v p r : List UInt8) (ok whole R1 R2 R3 sm RS : Bool) (LS : Hid (S.length = 32)) (Lx : Hid (x.length = 32)) (Ly : Hid (y.length = 32)) (Lu : Hid (u.length = 32)) (Lv : Hid (v.length = 32)) (Lp : Hid (p.length = 32)) (Lr : Hid (r.length = 32)) (n1 : (1 : Int) ≤ (n : Int)) (nm : (n : Int) < (m : Int)) (nm' : n < m) (m2 : (2 : Int) ≤ (m : Int)) (m3 : (m : Int) ≤ 9223372036854775807) (h0 : (0 : Int) ≤ (h : Int)) (hn : (h : Int) ≤ (m : Int)) (hm : (h : Int) < (n : Int)) (hm' : ¬ n ≤ h)
    (hq : (0 : Int) < (q : Int)) (hqm : (q : Int) ≤ 9223372036854775807) (hq1 : (q : Int) - 1 = (q1 : Int)) (hqq : (q1 : Int) < (q : Int)) (hqn : q1 < q) (hWe : W = some ⟨bs, offs, none⟩)
    (HAT : Hid (∀ j t, (c8 S)[j]? = some t → w.cell? ((⟨bs, offs + q1 * 32, none⟩ : Addr).add j) = some t))
    (cs : ∀ W, Calls Try.prog 47 #[.int .i64 (m : Int)] W fun e w' => e = .returned (.int .i64 (h : Int)) ∧ w' = W)
    (htoB : ∀ W, (Instr.slice 22 (.slice B m d) none (some (.int .i64 (h : Int))) none).run Try.prog W = .ok (.slice B h d) W)
    (hfrB : ∀ W, (Instr.slice 22 (.slice B m d) (some (.int .i64 (h : Int))) none none).run Try.prog W = .ok (.slice B' (m - h) (d - h)) W)
    (htoA : ∀ W, (Instr.slice 22 (.slice A n c) none (some (.int .i64 (h : Int))) none).run Try.prog W = .ok (.slice A h c) W)
    (hfrA : ∀ W, (Instr.slice 22 (.slice A n c) (some (.int .i64 (h : Int))) none none).run Try.prog W = .ok (.slice A' (n - h) (c - h)) W)
    (hlow : ∀ W', (Instr.slice 22 (.slice W q e) none (some (.int .i64 (q1 : Int))) none).run Try.prog W' = .ok (.slice W q1 e) W')
    (cu : ∀ W, w.grownBy W none → Calls Try.prog 19 #[.slice B h d] W fun e w' => e = .returned (.agg (c8 u).toArray) ∧ W.grownBy w' none)
    (cv : ∀ W, w.grownBy W none → Calls Try.prog 19 #[.slice B' (m - h) (d - h)] W fun e w' => e = .returned (.agg (c8 v).toArray) ∧ W.grownBy w' none)
    (cp : ∀ W, w.grownBy W none → Calls Try.prog 19 #[.slice A h c] W fun e w' => e = .returned (.agg (c8 p).toArray) ∧ W.grownBy w' none)
    (cr : ∀ W, w.grownBy W none → Calls Try.prog 19 #[.slice A' (n - h) (c - h)] W fun e w' => e = .returned (.agg (c8 r).toArray) ∧ W.grownBy w' none)
    (cg : ∀ W', w.grownBy W' none → Calls Try.prog 28 #[.agg (c8 zeros32).toArray, .int .i64 ((n : Int) - (h : Int)), .int .i64 ((m : Int) - (h : Int)), .bool false, .slice W q1 e] W' fun e2 w' => e2 = .returned (.agg (bothC x y (.slice BB kk ee) ok).toArray) ∧ W'.grownBy w' none)
    (cr2 : ∀ W', w.grownBy W' none → Calls Try.prog 32 #[.slice A' (n - h) (c - h), .slice B' (m - h) (d - h), .bool false, .slice W q1 e] W' fun e2 w' => e2 = .returned (.bool RS) ∧ W'.grownBy w' none)
    (csm : ∀ W, w.grownBy W none → Calls Try.prog 21 #[.slice A h c, .slice B h d] W fun e w' => e = .returned (.bool sm) ∧ W.grownBy w' none)
    (cdf : ∀ W, w.grownBy W none → Calls Try.prog 54 #[.slice A h c, .slice B h d] W fun e w' => e = .returned (.bool R3) ∧ W.grownBy w' none)
    (HR1 : Hid (apartB (nodeB S y) (nodeB u v) = R1))
    (HR2 : Hid (apartB (nodeB S x) (nodeB p r) = R2)) :
    Calls Try.prog 32 #[.slice A n c, .slice B m d, .bool whole, .slice W q e] w fun e' w' => e' = .returned (.bool (if ok = true then (if S ≠ u ∨ y ≠ v then R1 else if S ≠ p ∨ x ≠ r then R2 else if sm = false then R3 else RS) else false)) ∧ w.grownBy w' none := by
  subst hWe
  obtain ⟨RES, hRES⟩ : ∃ RES, RES = (if ok = true then (if S ≠ u ∨ y ≠ v then R1 else if S ≠ p ∨ x ≠ r then R2 else if sm = false then R3 else RS) else false) := ⟨_, rfl⟩
  rw [← hRES]
  have HRES := Lib.hid hRES
  clear hRES
  have IS := Lib.hid (info_a32 S LS.out)
  have FS := Lib.hid (show 0 + (c8 S).length ≤ zd.length by rw [c8_length, LS.out]; decide)
  have ES := Lib.hid (show (c8 S).length = zd.length by rw [c8_length, LS.out]; decide)
  have Ix := Lib.hid (info_a32 x Lx.out)
  have Fx := Lib.hid (show 0 + (c8 x).length ≤ zd.length by rw [c8_length, Lx.out]; decide)
  have Ex := Lib.hid (show (c8 x).length = zd.length by rw [c8_length, Lx.out]; decide)
  have Iy := Lib.hid (info_a32 y Ly.out)
  have Fy := Lib.hid (show 0 + (c8 y).length ≤ zd.length by rw [c8_length, Ly.out]; decide)
  have Ey := Lib.hid (show (c8 y).length = zd.length by rw [c8_length, Ly.out]; decide)
  have Iu := Lib.hid (info_a32 u Lu.out)
  have Fu := Lib.hid (show 0 + (c8 u).length ≤ zd.length by rw [c8_length, Lu.out]; decide)
  have Eu := Lib.hid (show (c8 u).length = zd.length by rw [c8_length, Lu.out]; decide)
  have Iv := Lib.hid (info_a32 v Lv.out)
  have Fv := Lib.hid (show 0 + (c8 v).length ≤ zd.length by rw [c8_length, Lv.out]; decide)
  have Ev := Lib.hid (show (c8 v).length = zd.length by rw [c8_length, Lv.out]; decide)
  have Ip := Lib.hid (info_a32 p Lp.out)
  have Fp := Lib.hid (show 0 + (c8 p).length ≤ zd.length by rw [c8_length, Lp.out]; decide)
  have Ep := Lib.hid (show (c8 p).length = zd.length by rw [c8_length, Lp.out]; decide)
  have Ir := Lib.hid (info_a32 r Lr.out)
  have Fr := Lib.hid (show 0 + (c8 r).length ≤ zd.length by rw [c8_length, Lr.out]; decide)
  have Er := Lib.hid (show (c8 r).length = zd.length by rw [c8_length, Lr.out]; decide)
  have lx : (bothC x y (.slice BB kk ee) ok).length = 66 := bothC_length _ _ _ _ Lx.out Ly.out
  have BIx := Lib.hid (info_both _ lx)
  have BFx := Lib.hid (show 0 + (bothC x y (.slice BB kk ee) ok).length ≤ bothZ.length by rw [lx]; decide)
  have BEx := Lib.hid (show (bothC x y (.slice BB kk ee) ok).length = bothZ.length by rw [lx]; decide)
  clear lx
  have eSu := fun W => eq_a32 W S u LS.out Lu.out
  have eyv := fun W => eq_a32 W y v Ly.out Lv.out
  have eSp := fun W => eq_a32 W S p LS.out Lp.out
  have exr := fun W => eq_a32 W x r Lx.out Lr.out
  have Epu := Lib.hid (show (c8 p).length = (c8 u).length by rw [c8_length, c8_length, Lp.out, Lu.out])
  have Fpu := Lib.hid (show 0 + (c8 p).length ≤ (c8 u).length by rw [c8_length, c8_length, Lp.out, Lu.out]; decide)
  have Erv := Lib.hid (show (c8 r).length = (c8 v).length by rw [c8_length, c8_length, Lr.out, Lv.out])
  have Frv := Lib.hid (show 0 + (c8 r).length ≤ (c8 v).length by rw [c8_length, c8_length, Lr.out, Lv.out]; decide)
  have t1 : decide ((n : Int) = (m : Int)) = false := by simp; omega
  have t2 : ((n : Int) == (m : Int)) = false := by simp; omega
  have t3 : ¬ n = m := by omega
  have t5 : decide ((q : Int) = 0) = false := by simp; omega
  have t6 : ((q : Int) == 0) = false := by simp; omega
  have t7 : ¬ q = 0 := by omega
  have t8 : (0 : Int) ≤ (q1 : Int) := by omega
  have t4 : decide ((n : Int) ≤ (h : Int)) = false := by simp; omega
  have t9 : decide (n ≤ h) = false := by simp; omega
  have hS1 := Own.start w
  go_enter Try.func32, Try.ntmps32
  go_wp2_with fail
  refine (cs _).mono ?_
  rintro e' w2 ⟨rfl, rfl⟩
  go_wp2_with (first | (refine wp_load rfl 26 (.tmp 36) rfl Try.underlying26 rfl ⟨bs, offs + q1 * 32, none⟩ rfl (c8 S) IS.out (fun j t ht => hS1.cell (HAT.out j t ht)) ?_) | (refine wp_alloc (o := ⟨some 10, _, _, _, _, _⟩) rfl 26 rfl _ alloc_d32 ?_))
  intro w3 hr hg hz
  clear hz
  have hS3 := hS1.new hr hg
  clear hr hg hS1
  go_wp2_with (refine wp_storeAgg rfl 26 (.tmp 10) (.tmp 37) rfl w2.heap.size 0 26 zd (c8 S) rfl rfl (hS3.row 0 rfl) IS.out FS.out (one8 _) ?_)
  intro w4 hr hg hz
  clear hz
  rw [splice_all ES.out] at hr
  have hS4 := hS3.setRow 0 rfl hr hg
  clear hr hg hS3
  go_wp2_with (first | (refine wp_built rfl 26 _ rfl _ rfl (c8 zeros32).toArray built_a32 ?_))
  refine (cg _ hS4.grown).mono ?_
  rintro e' w6 ⟨rfl, hg⟩
  have hS6 := hS4.call hg
  clear hg hS4 cg
  go_wp2_with (refine wp_alloc (o := ⟨some 15, _, _, _, _, _⟩) rfl 50 rfl _ alloc_both ?_)
  intro w7 hr hg hz
  clear hz
  have hS7 := hS6.new hr hg
  clear hr hg
  clear hS6
  go_wp2_with (first | (refine wp_storeAgg rfl 50 (.tmp 15) (.tmp 100) rfl w6.heap.size 0 50 bothZ (bothC x y (.slice BB kk ee) ok) rfl rfl (hS7.row 0 rfl) BIx.out BFx.out (one_both x y BB kk ee ok) ?_))
  intro w8 hr hg hz
  clear hz
  rw [splice_all BEx.out] at hr
  have hS8 := hS7.setRow 0 rfl hr hg
  clear hr hg hS7
  cases ok
  · have HRX := Lib.hid (show RES = false by rw [HRES.out]; rfl)
    clear HRES
    go_wp2_with (first | (refine wp_cell rfl 4 (.tmp 101) rfl Try.underlying4 rfl ⟨w6.heap.size, 65, none⟩ rfl _ (both_ok (hS8.row 0 rfl) Lx.out Ly.out) ?_))
    go_ret
    exact ⟨by rw [HRX.out]; rfl, hS8.grown⟩
  · have HRE := Lib.hid (show RES = (if S ≠ u ∨ y ≠ v then R1 else if S ≠ p ∨ x ≠ r then R2 else if sm = false then R3 else RS) by rw [HRES.out]; rfl)
    clear HRES
    go_wp2_with (first | (refine wp_cell rfl 4 (.tmp 101) rfl Try.underlying4 rfl ⟨w6.heap.size, 65, none⟩ rfl _ (both_ok (hS8.row 0 rfl) Lx.out Ly.out) ?_))
    have hd := hS8.drew
    clear hS8
    refine wp_region_dag (w0 := w2) (L0 := [rowE w6.heap.size 50 (bothC x y (.slice BB kk ee) true), rowE w2.heap.size 26 (c8 S)]) (fun _ => true) [0, 1, 2, 4, 5, 6] [(3, 107, .val (.agg (c8 u).toArray)), (7, 111, .val (.agg (c8 v).toArray)), (8, 16, .new 26 (zd)), (9, 17, .new 26 (zd))] [10, 11] (by kernel_rfl) (by simp) (by simp) hd (by kernel_rfl) ?_
    simp only [List.map_cons, List.map_nil]
    iterate 6 (refine wpMix_step rfl (fun K hK => ?_); go_simp; (try go_bits); with_reducible refine hK _ ?_; clear hK K)
    change DagGoal _ _ _ _ _ _ _ _ _ _ _
    refine ⟨⟨?_, ?_, ?_, ?_, trivial⟩, ?_⟩
    · refine ⟨_, rfl, rfl, fun f W K hS hK => ?_⟩
      simp only [putsL]
      go_wp2_with fail
      refine (cu _ hS.grown).mono ?_
      rintro e w' ⟨rfl, hg⟩
      go_wp2_with fail
      exact hK _ _ (by kernel_rfl) hg
    · refine ⟨_, rfl, rfl, fun f W K hS hK => ?_⟩
      simp only [putsL]
      go_wp2_with fail
      refine (cv _ hS.grown).mono ?_
      rintro e w' ⟨rfl, hg⟩
      go_wp2_with fail
      exact hK _ _ (by kernel_rfl) hg
    · refine ⟨_, rfl, rfl, fun f W K hS hK => ?_⟩
      simp only [putsL]
      go_wp2_with (refine wp_alloc (o := ⟨some 16, _, _, _, _, _⟩) rfl 26 rfl _ alloc_d32 ?_)
      intro w' hr hg hz
      go_wp2_with fail
      exact hK _ _ (by kernel_rfl) hr hg
    · refine ⟨_, rfl, rfl, fun f W K hS hK => ?_⟩
      simp only [putsL]
      go_wp2_with (refine wp_alloc (o := ⟨some 17, _, _, _, _, _⟩) rfl 26 rfl _ alloc_d32 ?_)
      intro w' hr hg hz
      go_wp2_with fail
      exact hK _ _ (by kernel_rfl) hr hg
    · intro g W hW hD
      have hH0 : Own w2 W [rowE (g 16) 26 zd, rowE (g 17) 26 zd, rowE w6.heap.size 50 (bothC x y (.slice BB kk ee) true), rowE w2.heap.size 26 (c8 S)] := hD
      obtain ⟨g16, hg16⟩ : ∃ g16, g16 = g 16 := ⟨_, rfl⟩
      obtain ⟨g17, hg17⟩ : ∃ g17, g17 = g 17 := ⟨_, rfl⟩
      rw [← hg16, ← hg17] at hH0
      simp only [putsS, List.map_cons, List.map_nil, ← hg16, ← hg17]
      clear hD hW hg16 hg17
      go_simp
      clear hd
      refine wpMix_loudW _ rfl rfl ?_
      go_wp2_with (refine wp_storeAgg rfl 26 (.tmp 16) (.tmp 107) rfl g16 0 26 zd (c8 u) rfl rfl (hH0.row 0 rfl) Iu.out Fu.out (one8 _) ?_)
      intro wd16 hr hg hz
      clear hz
      rw [splice_all Eu.out] at hr
      have hH1 := hH0.setRow 0 rfl hr hg
      clear hr hg hH0
      go_wp2_with fail
      refine wpMix_next' (fun _ => hH1.tail.tail) ?_
      refine wpMix_loudW _ rfl rfl ?_
      go_wp2_with (refine wp_storeAgg rfl 26 (.tmp 17) (.tmp 111) rfl g17 0 26 zd (c8 v) rfl rfl (hH1.row 1 rfl) Iv.out Fv.out (one8 _) ?_)
      intro wd17 hr hg hz
      clear hz
      rw [splice_all Ev.out] at hr
      have hB := hH1.setRow 1 rfl hr hg
      clear hr hg hH1
      go_wp2_with fail
      refine wpMix_next' (fun _ => hB.tail.tail) ?_
      unfold wpMix
      by_cases h1 : S = u
      · rw [decide_eq_true h1] at eSu
        have H1 := Lib.hid h1
        clear h1
        by_cases h2 : y = v
        · rw [decide_eq_true h2] at eyv
          have HN := Lib.hid (show RES = (if S ≠ p ∨ x ≠ r then R2 else if sm = false then R3 else RS) by rw [HRE.out]; exact if_neg (by rintro (h | h); exact h H1.out; exact h h2))
          clear h2 H1 HRE
          go_wp2_with (first | (refine wp_load rfl 26 (.tmp 116) rfl Try.underlying26 rfl ⟨w6.heap.size, 32, none⟩ rfl (c8 y) Iy.out (both_new (hB.row 2 rfl) Lx.out) ?_) | (refine wp_load rfl 26 (.tmp 16) rfl Try.underlying26 rfl ⟨g16, 0, none⟩ rfl (c8 u) Iu.out (row_all (hB.row 0 rfl)) ?_) | (refine wp_load rfl 26 (.tmp 10) rfl Try.underlying26 rfl ⟨w2.heap.size, 0, none⟩ rfl (c8 S) IS.out (row_all (hB.row 3 rfl)) ?_) | (refine wp_load rfl 26 (.tmp 17) rfl Try.underlying26 rfl ⟨g17, 0, none⟩ rfl (c8 v) Iv.out (row_all (hB.row 1 rfl)) ?_))
          have hK := hB.drew
          clear hB
          refine wp_region_mixC (fun W => Own w2 W []) (fun _ => true) [(0, true), (1, true), (2, true), (4, true), (5, true), (6, true), (3, false), (7, false), (8, false), (9, false)] (by kernel_rfl) (by kernel_rfl) (hK.sub (List.nil_sublist _)) ?_
          iterate 6 (refine wpMix_step rfl (fun K hK => ?_); go_simp; (try go_bits); with_reducible refine hK _ ?_; clear hK K)
          refine wpMix_loudW _ rfl rfl ?_
          go_wp2_with fail
          refine (cp _ hK.grown).mono ?_
          rintro e wK1 ⟨rfl, hg⟩
          have hK1 := hK.call hg
          clear hg hK
          go_wp2_with fail
          refine wpMix_next' (fun _ => hK1.sub (List.nil_sublist _)) ?_
          refine wpMix_loudW _ rfl rfl ?_
          go_wp2_with fail
          refine (cr _ hK1.grown).mono ?_
          rintro e wK2 ⟨rfl, hg⟩
          have hK2 := hK1.call hg
          clear hg hK1
          go_wp2_with fail
          refine wpMix_next' (fun _ => hK2.sub (List.nil_sublist _)) ?_
          refine wpMix_loudW _ rfl rfl ?_
          go_wp2_with (refine wp_storeAgg rfl 26 (.tmp 16) (.tmp 132) rfl g16 0 26 (c8 u) (c8 p) rfl rfl (hK2.row 0 rfl) Ip.out Fpu.out (one8 _) ?_)
          intro wK3 hr hg hz
          clear hz
          rw [splice_all Epu.out] at hr
          have hK3 := hK2.setRow 0 rfl hr hg
          clear hr hg hK2
          go_wp2_with fail
          refine wpMix_next' (fun _ => hK3.sub (List.nil_sublist _)) ?_
          refine wpMix_loudW _ rfl rfl ?_
          go_wp2_with (refine wp_storeAgg rfl 26 (.tmp 17) (.tmp 136) rfl g17 0 26 (c8 v) (c8 r) rfl rfl (hK3.row 1 rfl) Ir.out Frv.out (one8 _) ?_)
          intro wK4 hr hg hz
          clear hz
          rw [splice_all Erv.out] at hr
          have hC := hK3.setRow 1 rfl hr hg
          clear hr hg hK3
          go_wp2_with fail
          refine wpMix_next' (fun _ => hC.sub (List.nil_sublist _)) ?_
          unfold wpMix
          by_cases h3 : S = p
          · rw [decide_eq_true h3] at eSp
            have H3 := Lib.hid h3
            clear h3
            by_cases h4 : x = r
            · rw [decide_eq_true h4] at exr
              have HN2 := Lib.hid (show RES = (if sm = false then R3 else RS) by rw [HN.out]; exact if_neg (by rintro (h | h); exact h H3.out; exact h h4))
              clear h4 H3 HN
              go_wp2_with (first | (refine wp_load rfl 26 (.tmp 141) rfl Try.underlying26 rfl ⟨w6.heap.size, 0, none⟩ rfl (c8 x) Ix.out (both_old (hC.row 2 rfl)) ?_) | (refine wp_load rfl 26 (.tmp 16) rfl Try.underlying26 rfl ⟨g16, 0, none⟩ rfl (c8 p) Ip.out (row_all (hC.row 0 rfl)) ?_) | (refine wp_load rfl 26 (.tmp 10) rfl Try.underlying26 rfl ⟨w2.heap.size, 0, none⟩ rfl (c8 S) IS.out (row_all (hC.row 3 rfl)) ?_) | (refine wp_load rfl 26 (.tmp 17) rfl Try.underlying26 rfl ⟨g17, 0, none⟩ rfl (c8 r) Ir.out (row_all (hC.row 1 rfl)) ?_))
              have hD := hC.drew
              clear hC
              refine wp_region_mixC (fun W => Own w2 W _) (fun _ => true) [(0, true), (1, true), (2, true), (3, true), (4, true), (5, true), (6, false), (7, true)] (by kernel_rfl) (by kernel_rfl) hD ?_
              iterate 6 (refine wpMix_step rfl (fun K hK => ?_); go_simp; (try go_bits); with_reducible refine hK _ ?_; clear hK K)
              refine wpMix_loudW _ rfl rfl ?_
              go_wp2_with fail
              refine (csm _ hD.grown).mono ?_
              rintro e wE ⟨rfl, hg⟩
              have hE := hD.call hg
              clear hg hD
              go_wp2_with fail
              refine wpMix_next' (fun _ => hE) ?_
              iterate 1 (refine wpMix_step rfl (fun K hK => ?_); go_simp; (try go_bits); with_reducible refine hK _ ?_; clear hK K)
              unfold wpMix
              cases sm
              · have HRX := Lib.hid (show RES = R3 by rw [HN2.out]; rfl)
                clear HN2
                go_wp2_with fail
                have hG := hE.drew
                clear hE
                refine wp_region_mixC (fun W => Own w2 W _) (fun _ => true) [(0, true), (1, true), (2, true), (3, true), (4, true), (5, true), (6, false), (7, false)] (by kernel_rfl) (by kernel_rfl) hG ?_
                iterate 6 (refine wpMix_step rfl (fun K hK => ?_); go_simp; (try go_bits); with_reducible refine hK _ ?_; clear hK K)
                refine wpMix_loudW _ rfl rfl ?_
                go_wp2_with fail
                refine (cdf _ hG.grown).mono ?_
                rintro e wF ⟨rfl, hg⟩
                have hF := hG.call hg
                clear hg hG
                go_wp2_with fail
                refine wpMix_next' (fun _ => hF) ?_
                refine wpMix_loudW _ rfl rfl ?_
                go_wp2_with fail
                refine wpMix_next' (fun _ => hF) ?_
                unfold wpMix
                go_wp2
                go_ret
                exact ⟨by rw [HRX.out]; rfl, hF.grown⟩
              · have HRX := Lib.hid (show RES = RS by rw [HN2.out]; rfl)
                clear HN2
                go_wp2_with fail
                have hG := hE.drew
                clear hE
                refine wp_region_mixC (fun W => Own w2 W _) (fun _ => true) [(0, true), (1, true), (2, true), (3, true), (4, true), (5, true), (6, true), (7, false), (8, false)] (by kernel_rfl) (by kernel_rfl) hG ?_
                iterate 7 (refine wpMix_step rfl (fun K hK => ?_); go_simp; (try go_bits); with_reducible refine hK _ ?_; clear hK K)
                refine wpMix_loudW _ rfl rfl ?_
                go_wp2_with fail
                refine (cr2 _ hG.grown).mono ?_
                rintro e wF ⟨rfl, hg⟩
                have hF := hG.call hg
                clear hg hG
                go_wp2_with fail
                refine wpMix_next' (fun _ => hF) ?_
                refine wpMix_loudW _ rfl rfl ?_
                go_wp2_with fail
                refine wpMix_next' (fun _ => hF) ?_
                unfold wpMix
                go_wp2
                go_ret
                exact ⟨by rw [HRX.out]; rfl, hF.grown⟩
            · rw [decide_eq_false h4] at exr
              have HRX := Lib.hid (show RES = R2 by rw [HN.out]; exact if_pos (.inr h4))
              clear h4 H3 HN
              go_wp2_with (first | (refine wp_load rfl 26 (.tmp 141) rfl Try.underlying26 rfl ⟨w6.heap.size, 0, none⟩ rfl (c8 x) Ix.out (both_old (hC.row 2 rfl)) ?_) | (refine wp_load rfl 26 (.tmp 16) rfl Try.underlying26 rfl ⟨g16, 0, none⟩ rfl (c8 p) Ip.out (row_all (hC.row 0 rfl)) ?_) | (refine wp_load rfl 26 (.tmp 10) rfl Try.underlying26 rfl ⟨w2.heap.size, 0, none⟩ rfl (c8 S) IS.out (row_all (hC.row 3 rfl)) ?_) | (refine wp_load rfl 26 (.tmp 17) rfl Try.underlying26 rfl ⟨g17, 0, none⟩ rfl (c8 r) Ir.out (row_all (hC.row 1 rfl)) ?_))
              have hP := hC.drew
              clear hC
              refine wp_region_mixC (fun W => Own w2 W _) (fun _ => true) [(0, true), (1, true), (2, true), (4, true), (5, true), (3, false), (6, false), (7, false), (8, false)] (by kernel_rfl) (by kernel_rfl) hP ?_
              refine wpMix_pureW (.agg (c8 S).toArray) rfl rfl (fun W hW => run_load_op 26 (.tmp 10) rfl Try.underlying26 rfl ⟨w2.heap.size, 0, none⟩ rfl _ IS.out (row_all (hW.row 3 rfl))) ?_
              iterate 1 (refine wpMix_step rfl (fun K hK => ?_); go_simp; (try go_bits); with_reducible refine hK _ ?_; clear hK K)
              refine wpMix_pureW (.agg (c8 x).toArray) rfl rfl (fun W hW => run_load_op 26 (.tmp 147) rfl Try.underlying26 rfl ⟨w6.heap.size, 0, none⟩ rfl _ Ix.out (both_old (hW.row 2 rfl))) ?_
              refine wpMix_pureW (.agg (c8 p).toArray) rfl rfl (fun W hW => run_load_op 26 (.tmp 16) rfl Try.underlying26 rfl ⟨g16, 0, none⟩ rfl _ Ip.out (row_all (hW.row 0 rfl))) ?_
              refine wpMix_pureW (.agg (c8 r).toArray) rfl rfl (fun W hW => run_load_op 26 (.tmp 17) rfl Try.underlying26 rfl ⟨g17, 0, none⟩ rfl _ Ir.out (row_all (hW.row 1 rfl))) ?_
              refine wpMix_loudW _ rfl rfl ?_
              go_wp2_with fail
              refine (rpair_any S x _ LS.out Lx.out).mono ?_
              rintro e' wP ⟨vv, rfl, ho, hg⟩
              have hlP : (nodeB S x).length = 65 := by simp [nodeB, LS.out, Lx.out]
              obtain ⟨AP, cP, rfl, hbP, _, _⟩ := own_open ho
              rw [hlP]
              have HBP := Lib.hid hbP
              have HLP := Lib.hid hlP
              have hP2 := hP.call hg
              clear hg hP ho hbP hlP
              go_wp2_with fail
              refine wpMix_next' (fun _ => hP2) ?_
              have hZ := Own.start wP
              refine wpMix_loudW _ rfl rfl ?_
              go_wp2_with fail
              refine (rpair_any p r _ Lp.out Lr.out).mono ?_
              rintro e' wR ⟨vv, rfl, ho, hg⟩
              have hlP : (nodeB p r).length = 65 := by simp [nodeB, Lp.out, Lr.out]
              obtain ⟨AQ, cQ, rfl, hbP, _, _⟩ := own_open ho
              rw [hlP]
              have HBQ := Lib.hid hbP
              have HLQ := Lib.hid hlP
              have hP4 := hP2.call hg
              have hZ3 := hZ.call hg
              clear hg hP2 ho hbP hlP hZ
              go_wp2_with fail
              refine wpMix_next' (fun _ => hP4) ?_
              have hap := apart_any AP AQ cP cQ _ _ wR (HBP.out.keep hZ3.grown) HBQ.out HLP.out HLQ.out
              rw [HR2.out] at hap
              clear hZ3
              refine wpMix_loudW _ rfl rfl ?_
              go_wp2_with fail
              refine (hap).mono ?_
              rintro e wS ⟨rfl, hg⟩
              have hP5 := hP4.call hg
              clear hg hP4
              go_wp2_with fail
              refine wpMix_next' (fun _ => hP5) ?_
              refine wpMix_loudW _ rfl rfl ?_
              go_wp2_with fail
              refine wpMix_next' (fun _ => hP5) ?_
              unfold wpMix
              go_wp2
              go_ret
              exact ⟨by rw [HRX.out]; rfl, hP5.grown⟩
          · rw [decide_eq_false h3] at eSp
            have HRX := Lib.hid (show RES = R2 by rw [HN.out]; exact if_pos (.inl h3))
            clear h3 HN
            go_wp2_with (first | (refine wp_load rfl 26 (.tmp 141) rfl Try.underlying26 rfl ⟨w6.heap.size, 0, none⟩ rfl (c8 x) Ix.out (both_old (hC.row 2 rfl)) ?_) | (refine wp_load rfl 26 (.tmp 16) rfl Try.underlying26 rfl ⟨g16, 0, none⟩ rfl (c8 p) Ip.out (row_all (hC.row 0 rfl)) ?_) | (refine wp_load rfl 26 (.tmp 10) rfl Try.underlying26 rfl ⟨w2.heap.size, 0, none⟩ rfl (c8 S) IS.out (row_all (hC.row 3 rfl)) ?_) | (refine wp_load rfl 26 (.tmp 17) rfl Try.underlying26 rfl ⟨g17, 0, none⟩ rfl (c8 r) Ir.out (row_all (hC.row 1 rfl)) ?_))
            have hP := hC.drew
            clear hC
            refine wp_region_mixC (fun W => Own w2 W _) (fun _ => true) [(0, true), (1, true), (2, true), (4, true), (5, true), (3, false), (6, false), (7, false), (8, false)] (by kernel_rfl) (by kernel_rfl) hP ?_
            refine wpMix_pureW (.agg (c8 S).toArray) rfl rfl (fun W hW => run_load_op 26 (.tmp 10) rfl Try.underlying26 rfl ⟨w2.heap.size, 0, none⟩ rfl _ IS.out (row_all (hW.row 3 rfl))) ?_
            iterate 1 (refine wpMix_step rfl (fun K hK => ?_); go_simp; (try go_bits); with_reducible refine hK _ ?_; clear hK K)
            refine wpMix_pureW (.agg (c8 x).toArray) rfl rfl (fun W hW => run_load_op 26 (.tmp 147) rfl Try.underlying26 rfl ⟨w6.heap.size, 0, none⟩ rfl _ Ix.out (both_old (hW.row 2 rfl))) ?_
            refine wpMix_pureW (.agg (c8 p).toArray) rfl rfl (fun W hW => run_load_op 26 (.tmp 16) rfl Try.underlying26 rfl ⟨g16, 0, none⟩ rfl _ Ip.out (row_all (hW.row 0 rfl))) ?_
            refine wpMix_pureW (.agg (c8 r).toArray) rfl rfl (fun W hW => run_load_op 26 (.tmp 17) rfl Try.underlying26 rfl ⟨g17, 0, none⟩ rfl _ Ir.out (row_all (hW.row 1 rfl))) ?_
            refine wpMix_loudW _ rfl rfl ?_
            go_wp2_with fail
            refine (rpair_any S x _ LS.out Lx.out).mono ?_
            rintro e' wP ⟨vv, rfl, ho, hg⟩
            have hlP : (nodeB S x).length = 65 := by simp [nodeB, LS.out, Lx.out]
            obtain ⟨AP, cP, rfl, hbP, _, _⟩ := own_open ho
            rw [hlP]
            have HBP := Lib.hid hbP
            have HLP := Lib.hid hlP
            have hP2 := hP.call hg
            clear hg hP ho hbP hlP
            go_wp2_with fail
            refine wpMix_next' (fun _ => hP2) ?_
            have hZ := Own.start wP
            refine wpMix_loudW _ rfl rfl ?_
            go_wp2_with fail
            refine (rpair_any p r _ Lp.out Lr.out).mono ?_
            rintro e' wR ⟨vv, rfl, ho, hg⟩
            have hlP : (nodeB p r).length = 65 := by simp [nodeB, Lp.out, Lr.out]
            obtain ⟨AQ, cQ, rfl, hbP, _, _⟩ := own_open ho
            rw [hlP]
            have HBQ := Lib.hid hbP
            have HLQ := Lib.hid hlP
            have hP4 := hP2.call hg
            have hZ3 := hZ.call hg
            clear hg hP2 ho hbP hlP hZ
            go_wp2_with fail
            refine wpMix_next' (fun _ => hP4) ?_
            have hap := apart_any AP AQ cP cQ _ _ wR (HBP.out.keep hZ3.grown) HBQ.out HLP.out HLQ.out
            rw [HR2.out] at hap
            clear hZ3
            refine wpMix_loudW _ rfl rfl ?_
            go_wp2_with fail
            refine (hap).mono ?_
            rintro e wS ⟨rfl, hg⟩
            have hP5 := hP4.call hg
            clear hg hP4
            go_wp2_with fail
            refine wpMix_next' (fun _ => hP5) ?_
            refine wpMix_loudW _ rfl rfl ?_
            go_wp2_with fail
            refine wpMix_next' (fun _ => hP5) ?_
            unfold wpMix
            go_wp2
            go_ret
            exact ⟨by rw [HRX.out]; rfl, hP5.grown⟩
        · rw [decide_eq_false h2] at eyv
          have HRX := Lib.hid (show RES = R1 by rw [HRE.out]; exact if_pos (.inr h2))
          clear h2 H1 HRE
          go_wp2_with (first | (refine wp_load rfl 26 (.tmp 116) rfl Try.underlying26 rfl ⟨w6.heap.size, 32, none⟩ rfl (c8 y) Iy.out (both_new (hB.row 2 rfl) Lx.out) ?_) | (refine wp_load rfl 26 (.tmp 16) rfl Try.underlying26 rfl ⟨g16, 0, none⟩ rfl (c8 u) Iu.out (row_all (hB.row 0 rfl)) ?_) | (refine wp_load rfl 26 (.tmp 10) rfl Try.underlying26 rfl ⟨w2.heap.size, 0, none⟩ rfl (c8 S) IS.out (row_all (hB.row 3 rfl)) ?_) | (refine wp_load rfl 26 (.tmp 17) rfl Try.underlying26 rfl ⟨g17, 0, none⟩ rfl (c8 v) Iv.out (row_all (hB.row 1 rfl)) ?_))
          have hP := hB.drew
          clear hB
          refine wp_region_mixC (fun W => Own w2 W _) (fun _ => true) [(0, true), (1, true), (2, true), (4, true), (5, true), (3, false), (6, false), (7, false), (8, false)] (by kernel_rfl) (by kernel_rfl) hP ?_
          refine wpMix_pureW (.agg (c8 S).toArray) rfl rfl (fun W hW => run_load_op 26 (.tmp 10) rfl Try.underlying26 rfl ⟨w2.heap.size, 0, none⟩ rfl _ IS.out (row_all (hW.row 3 rfl))) ?_
          iterate 1 (refine wpMix_step rfl (fun K hK => ?_); go_simp; (try go_bits); with_reducible refine hK _ ?_; clear hK K)
          refine wpMix_pureW (.agg (c8 y).toArray) rfl rfl (fun W hW => run_load_op 26 (.tmp 122) rfl Try.underlying26 rfl ⟨w6.heap.size, 32, none⟩ rfl _ Iy.out (both_new (hW.row 2 rfl) Lx.out)) ?_
          refine wpMix_pureW (.agg (c8 u).toArray) rfl rfl (fun W hW => run_load_op 26 (.tmp 16) rfl Try.underlying26 rfl ⟨g16, 0, none⟩ rfl _ Iu.out (row_all (hW.row 0 rfl))) ?_
          refine wpMix_pureW (.agg (c8 v).toArray) rfl rfl (fun W hW => run_load_op 26 (.tmp 17) rfl Try.underlying26 rfl ⟨g17, 0, none⟩ rfl _ Iv.out (row_all (hW.row 1 rfl))) ?_
          refine wpMix_loudW _ rfl rfl ?_
          go_wp2_with fail
          refine (rpair_any S y _ LS.out Ly.out).mono ?_
          rintro e' wP ⟨vv, rfl, ho, hg⟩
          have hlP : (nodeB S y).length = 65 := by simp [nodeB, LS.out, Ly.out]
          obtain ⟨AP, cP, rfl, hbP, _, _⟩ := own_open ho
          rw [hlP]
          have HBP := Lib.hid hbP
          have HLP := Lib.hid hlP
          have hP2 := hP.call hg
          clear hg hP ho hbP hlP
          go_wp2_with fail
          refine wpMix_next' (fun _ => hP2) ?_
          have hZ := Own.start wP
          refine wpMix_loudW _ rfl rfl ?_
          go_wp2_with fail
          refine (rpair_any u v _ Lu.out Lv.out).mono ?_
          rintro e' wR ⟨vv, rfl, ho, hg⟩
          have hlP : (nodeB u v).length = 65 := by simp [nodeB, Lu.out, Lv.out]
          obtain ⟨AQ, cQ, rfl, hbP, _, _⟩ := own_open ho
          rw [hlP]
          have HBQ := Lib.hid hbP
          have HLQ := Lib.hid hlP
          have hP4 := hP2.call hg
          have hZ3 := hZ.call hg
          clear hg hP2 ho hbP hlP hZ
          go_wp2_with fail
          refine wpMix_next' (fun _ => hP4) ?_
          have hap := apart_any AP AQ cP cQ _ _ wR (HBP.out.keep hZ3.grown) HBQ.out HLP.out HLQ.out
          rw [HR1.out] at hap
          clear hZ3
          refine wpMix_loudW _ rfl rfl ?_
          go_wp2_with fail
          refine (hap).mono ?_
          rintro e wS ⟨rfl, hg⟩
          have hP5 := hP4.call hg
          clear hg hP4
          go_wp2_with fail
          refine wpMix_next' (fun _ => hP5) ?_
          refine wpMix_loudW _ rfl rfl ?_
          go_wp2_with fail
          refine wpMix_next' (fun _ => hP5) ?_
          unfold wpMix
          go_wp2
          go_ret
          exact ⟨by rw [HRX.out]; rfl, hP5.grown⟩
      · rw [decide_eq_false h1] at eSu
        have HRX := Lib.hid (show RES = R1 by rw [HRE.out]; exact if_pos (.inl h1))
        clear h1 HRE
        go_wp2_with (first | (refine wp_load rfl 26 (.tmp 116) rfl Try.underlying26 rfl ⟨w6.heap.size, 32, none⟩ rfl (c8 y) Iy.out (both_new (hB.row 2 rfl) Lx.out) ?_) | (refine wp_load rfl 26 (.tmp 16) rfl Try.underlying26 rfl ⟨g16, 0, none⟩ rfl (c8 u) Iu.out (row_all (hB.row 0 rfl)) ?_) | (refine wp_load rfl 26 (.tmp 10) rfl Try.underlying26 rfl ⟨w2.heap.size, 0, none⟩ rfl (c8 S) IS.out (row_all (hB.row 3 rfl)) ?_) | (refine wp_load rfl 26 (.tmp 17) rfl Try.underlying26 rfl ⟨g17, 0, none⟩ rfl (c8 v) Iv.out (row_all (hB.row 1 rfl)) ?_))
        have hP := hB.drew
        clear hB
        refine wp_region_mixC (fun W => Own w2 W _) (fun _ => true) [(0, true), (1, true), (2, true), (4, true), (5, true), (3, false), (6, false), (7, false), (8, false)] (by kernel_rfl) (by kernel_rfl) hP ?_
        refine wpMix_pureW (.agg (c8 S).toArray) rfl rfl (fun W hW => run_load_op 26 (.tmp 10) rfl Try.underlying26 rfl ⟨w2.heap.size, 0, none⟩ rfl _ IS.out (row_all (hW.row 3 rfl))) ?_
        iterate 1 (refine wpMix_step rfl (fun K hK => ?_); go_simp; (try go_bits); with_reducible refine hK _ ?_; clear hK K)
        refine wpMix_pureW (.agg (c8 y).toArray) rfl rfl (fun W hW => run_load_op 26 (.tmp 122) rfl Try.underlying26 rfl ⟨w6.heap.size, 32, none⟩ rfl _ Iy.out (both_new (hW.row 2 rfl) Lx.out)) ?_
        refine wpMix_pureW (.agg (c8 u).toArray) rfl rfl (fun W hW => run_load_op 26 (.tmp 16) rfl Try.underlying26 rfl ⟨g16, 0, none⟩ rfl _ Iu.out (row_all (hW.row 0 rfl))) ?_
        refine wpMix_pureW (.agg (c8 v).toArray) rfl rfl (fun W hW => run_load_op 26 (.tmp 17) rfl Try.underlying26 rfl ⟨g17, 0, none⟩ rfl _ Iv.out (row_all (hW.row 1 rfl))) ?_
        refine wpMix_loudW _ rfl rfl ?_
        go_wp2_with fail
        refine (rpair_any S y _ LS.out Ly.out).mono ?_
        rintro e' wP ⟨vv, rfl, ho, hg⟩
        have hlP : (nodeB S y).length = 65 := by simp [nodeB, LS.out, Ly.out]
        obtain ⟨AP, cP, rfl, hbP, _, _⟩ := own_open ho
        rw [hlP]
        have HBP := Lib.hid hbP
        have HLP := Lib.hid hlP
        have hP2 := hP.call hg
        clear hg hP ho hbP hlP
        go_wp2_with fail
        refine wpMix_next' (fun _ => hP2) ?_
        have hZ := Own.start wP
        refine wpMix_loudW _ rfl rfl ?_
        go_wp2_with fail
        refine (rpair_any u v _ Lu.out Lv.out).mono ?_
        rintro e' wR ⟨vv, rfl, ho, hg⟩
        have hlP : (nodeB u v).length = 65 := by simp [nodeB, Lu.out, Lv.out]
        obtain ⟨AQ, cQ, rfl, hbP, _, _⟩ := own_open ho
        rw [hlP]
        have HBQ := Lib.hid hbP
        have HLQ := Lib.hid hlP
        have hP4 := hP2.call hg
        have hZ3 := hZ.call hg
        clear hg hP2 ho hbP hlP hZ
        go_wp2_with fail
        refine wpMix_next' (fun _ => hP4) ?_
        have hap := apart_any AP AQ cP cQ _ _ wR (HBP.out.keep hZ3.grown) HBQ.out HLP.out HLQ.out
        rw [HR1.out] at hap
        clear hZ3
        refine wpMix_loudW _ rfl rfl ?_
        go_wp2_with fail
        refine (hap).mono ?_
        rintro e wS ⟨rfl, hg⟩
        have hP5 := hP4.call hg
        clear hg hP4
        go_wp2_with fail
        refine wpMix_next' (fun _ => hP5) ?_
        refine wpMix_loudW _ rfl rfl ?_
        go_wp2_with fail
        refine wpMix_next' (fun _ => hP5) ?_
        unfold wpMix
        go_wp2
        go_ret
        exact ⟨by rw [HRX.out]; rfl, hP5.grown⟩
end Go.Proofs.Ytpohjldhbaalbaa
