/- The contract of Differ. -/
import Derived.Test.YtpohjldhbaalbaaApart3
import Derived.Test.YtpohjldhbaalbaaPath3
import Derived.Test.YtpohjldhbaalbaaStraysLaw
import Derived.Test.YtpohjldhbaalbaaDag
namespace Go.Proofs.Ytpohjldhbaalbaa
set_option linter.unusedVariables false
set_option linter.unusedSimpArgs false
set_option linter.unusedSectionVars false
open Go.RowKit
set_option linter.unusedVariables false

set_option maxRecDepth 100000 in
set_option maxHeartbeats 40000000 in
theorem differ_core (w : World) (A A' B B' : Option Addr) (c d n h : Nat) (a b u v : List UInt8) (R1 sm R2 R3 : Bool) (La : Hid (a.length = 32)) (Lb : Hid (b.length = 32)) (Lu : Hid (u.length = 32)) (Lv : Hid (v.length = 32)) (n2 : (2 : Int) ≤ (n : Int)) (n3 : (n : Int) ≤ 9223372036854775807) (h0 : (0 : Int) ≤ (h : Int)) (hn : (h : Int) ≤ (n : Int))
    (cs : ∀ W, Calls Try.prog 47 #[.int .i64 (n : Int)] W fun e w' => e = .returned (.int .i64 (h : Int)) ∧ w' = W)
    (htoA : ∀ W, (Instr.slice 22 (.slice A n c) none (some (.int .i64 (h : Int))) none).run Try.prog W = .ok (.slice A h c) W)
    (hfrA : ∀ W, (Instr.slice 22 (.slice A n c) (some (.int .i64 (h : Int))) none none).run Try.prog W = .ok (.slice A' (n - h) (c - h)) W)
    (htoB : ∀ W, (Instr.slice 22 (.slice B n d) none (some (.int .i64 (h : Int))) none).run Try.prog W = .ok (.slice B h d) W)
    (hfrB : ∀ W, (Instr.slice 22 (.slice B n d) (some (.int .i64 (h : Int))) none none).run Try.prog W = .ok (.slice B' (n - h) (d - h)) W)
    (ca : ∀ W, w.grownBy W none → Calls Try.prog 19 #[.slice A h c] W fun e w' => e = .returned (.agg (c8 a).toArray) ∧ W.grownBy w' none)
    (cb : ∀ W, w.grownBy W none → Calls Try.prog 19 #[.slice A' (n - h) (c - h)] W fun e w' => e = .returned (.agg (c8 b).toArray) ∧ W.grownBy w' none)
    (cu : ∀ W, w.grownBy W none → Calls Try.prog 19 #[.slice B h d] W fun e w' => e = .returned (.agg (c8 u).toArray) ∧ W.grownBy w' none)
    (cv : ∀ W, w.grownBy W none → Calls Try.prog 19 #[.slice B' (n - h) (d - h)] W fun e w' => e = .returned (.agg (c8 v).toArray) ∧ W.grownBy w' none)
    (csm : ∀ W, w.grownBy W none → Calls Try.prog 21 #[.slice A h c, .slice B h d] W fun e w' => e = .returned (.bool sm) ∧ W.grownBy w' none)
    (cr2 : ∀ W, w.grownBy W none → Calls Try.prog 54 #[.slice A h c, .slice B h d] W fun e w' => e = .returned (.bool R2) ∧ W.grownBy w' none)
    (cr3 : ∀ W, w.grownBy W none → Calls Try.prog 54 #[.slice A' (n - h) (c - h), .slice B' (n - h) (d - h)] W fun e w' => e = .returned (.bool R3) ∧ W.grownBy w' none)
    (HR1 : Hid (apartB (nodeB a b) (nodeB u v) = R1)) :
    Calls Try.prog 54 #[.slice A n c, .slice B n d] w fun e' w' => e' = .returned (.bool (if a ≠ u ∨ b ≠ v then R1 else if sm = false then R2 else R3)) ∧ w.grownBy w' none := by
  obtain ⟨RES, hRES⟩ : ∃ RES, RES = (if a ≠ u ∨ b ≠ v then R1 else if sm = false then R2 else R3) := ⟨_, rfl⟩
  rw [← hRES]
  have HRES := Lib.hid hRES
  clear hRES
  have Ia := Lib.hid (info_a32 a La.out)
  have Fa := Lib.hid (show 0 + (c8 a).length ≤ zd.length by rw [c8_length, La.out]; decide)
  have Ea := Lib.hid (show (c8 a).length = zd.length by rw [c8_length, La.out]; decide)
  have Ib := Lib.hid (info_a32 b Lb.out)
  have Fb := Lib.hid (show 0 + (c8 b).length ≤ zd.length by rw [c8_length, Lb.out]; decide)
  have Eb := Lib.hid (show (c8 b).length = zd.length by rw [c8_length, Lb.out]; decide)
  have Iu := Lib.hid (info_a32 u Lu.out)
  have Fu := Lib.hid (show 0 + (c8 u).length ≤ zd.length by rw [c8_length, Lu.out]; decide)
  have Eu := Lib.hid (show (c8 u).length = zd.length by rw [c8_length, Lu.out]; decide)
  have Iv := Lib.hid (info_a32 v Lv.out)
  have Fv := Lib.hid (show 0 + (c8 v).length ≤ zd.length by rw [c8_length, Lv.out]; decide)
  have Ev := Lib.hid (show (c8 v).length = zd.length by rw [c8_length, Lv.out]; decide)
  have eau := fun W => eq_a32 W a u La.out Lu.out
  have ebv := fun W => eq_a32 W b v Lb.out Lv.out
  have t1 : decide ((n : Int) < 2) = false := by simp; omega
  have t2 : decide (n < 2) = false := by simp; omega
  have t3 : ¬ n < 2 := by omega
  have hS0 := Own.start w
  go_enter Try.func54, Try.ntmps54
  go_wp2_with fail
  refine (cs _).mono ?_
  rintro e' w2 ⟨rfl, rfl⟩
  go_wp2_with fail
  have hd := hS0.drew
  clear hS0
  refine wp_region_dag (w0 := w2) (L0 := []) (fun _ => true) [0, 1, 2, 4, 5, 6] [(3, 26, .val (.agg (c8 a).toArray)), (7, 30, .val (.agg (c8 b).toArray)), (8, 6, .new 26 (zd)), (9, 7, .new 26 (zd))] [10, 11] (by kernel_rfl) (by simp) (by simp) hd (by kernel_rfl) ?_
  simp only [List.map_cons, List.map_nil]
  iterate 6 (refine wpMix_step rfl (fun K hK => ?_); go_simp; (try go_bits); with_reducible refine hK _ ?_; clear hK K)
  change DagGoal _ _ _ _ _ _ _ _ _ _ _
  refine ⟨⟨?_, ?_, ?_, ?_, trivial⟩, ?_⟩
  · refine ⟨_, rfl, rfl, fun f W K hS hK => ?_⟩
    simp only [putsL]
    go_wp2_with fail
    refine (ca _ hS.grown).mono ?_
    rintro e w' ⟨rfl, hg⟩
    go_wp2_with fail
    exact hK _ _ (by kernel_rfl) hg
  · refine ⟨_, rfl, rfl, fun f W K hS hK => ?_⟩
    simp only [putsL]
    go_wp2_with fail
    refine (cb _ hS.grown).mono ?_
    rintro e w' ⟨rfl, hg⟩
    go_wp2_with fail
    exact hK _ _ (by kernel_rfl) hg
  · refine ⟨_, rfl, rfl, fun f W K hS hK => ?_⟩
    simp only [putsL]
    go_wp2_with (refine wp_alloc (o := ⟨some 6, _, _, _, _, _⟩) rfl 26 rfl _ alloc_d32 ?_)
    intro w' hr hg hz
    go_wp2_with fail
    exact hK _ _ (by kernel_rfl) hr hg
  · refine ⟨_, rfl, rfl, fun f W K hS hK => ?_⟩
    simp only [putsL]
    go_wp2_with (refine wp_alloc (o := ⟨some 7, _, _, _, _, _⟩) rfl 26 rfl _ alloc_d32 ?_)
    intro w' hr hg hz
    go_wp2_with fail
    exact hK _ _ (by kernel_rfl) hr hg
  · intro g W hW hD
    have hH0 : Own w2 W [rowE (g 6) 26 zd, rowE (g 7) 26 zd] := hD
    obtain ⟨g6, hg6⟩ : ∃ g6, g6 = g 6 := ⟨_, rfl⟩
    obtain ⟨g7, hg7⟩ : ∃ g7, g7 = g 7 := ⟨_, rfl⟩
    rw [← hg6, ← hg7] at hH0
    simp only [putsS, List.map_cons, List.map_nil, ← hg6, ← hg7]
    clear hD hW hg6 hg7
    go_simp
    clear hd
    refine wpMix_loudW _ rfl rfl ?_
    go_wp2_with (refine wp_storeAgg rfl 26 (.tmp 6) (.tmp 26) rfl g6 0 26 zd (c8 a) rfl rfl (hH0.row 0 rfl) Ia.out Fa.out (one8 _) ?_)
    intro wd6 hr hg hz
    clear hz
    rw [splice_all Ea.out] at hr
    have hH1 := hH0.setRow 0 rfl hr hg
    clear hr hg hH0
    go_wp2_with fail
    refine wpMix_next' (fun _ => hH1.tail.tail) ?_
    refine wpMix_loudW _ rfl rfl ?_
    go_wp2_with (refine wp_storeAgg rfl 26 (.tmp 7) (.tmp 30) rfl g7 0 26 zd (c8 b) rfl rfl (hH1.row 1 rfl) Ib.out Fb.out (one8 _) ?_)
    intro wd7 hr hg hz
    clear hz
    rw [splice_all Eb.out] at hr
    have hA := hH1.setRow 1 rfl hr hg
    clear hr hg hH1
    go_wp2_with fail
    refine wpMix_next' (fun _ => hA.tail.tail) ?_
    unfold wpMix
    go_wp2_with fail
    have hd := hA.drew
    clear hA
    refine wp_region_dag (w0 := w2) (L0 := [rowE g6 26 (c8 a), rowE g7 26 (c8 b)]) (fun _ => true) [0, 1, 2, 4, 5, 6] [(3, 34, .val (.agg (c8 u).toArray)), (7, 38, .val (.agg (c8 v).toArray)), (8, 8, .new 26 (zd)), (9, 9, .new 26 (zd))] [10, 11] (by kernel_rfl) (by simp) (by simp) hd (by kernel_rfl) ?_
    simp only [List.map_cons, List.map_nil]
    iterate 6 (refine wpMix_step rfl (fun K hK => ?_); go_simp; (try go_bits); with_reducible refine hK _ ?_; clear hK K)
    change DagGoal _ _ _ _ _ _ _ _ _ _ _
    refine ⟨⟨?_, ?_, ?_, ?_, trivial⟩, ?_⟩
    · refine ⟨_, rfl, rfl, fun f W K hS hK => ?_⟩
      simp only [putsL]
      go_wp2_with fail
      refine (cu _ hS.grown).mono ?_
      rintro e w' ⟨rfl, hg⟩
      go_wp2_with fail
      exact hK _ _ (by kernel_rfl) hg
    · refine ⟨_, rfl, rfl, fun f W K hS hK => ?_⟩
      simp only [putsL]
      go_wp2_with fail
      refine (cv _ hS.grown).mono ?_
      rintro e w' ⟨rfl, hg⟩
      go_wp2_with fail
      exact hK _ _ (by kernel_rfl) hg
    · refine ⟨_, rfl, rfl, fun f W K hS hK => ?_⟩
      simp only [putsL]
      go_wp2_with (refine wp_alloc (o := ⟨some 8, _, _, _, _, _⟩) rfl 26 rfl _ alloc_d32 ?_)
      intro w' hr hg hz
      go_wp2_with fail
      exact hK _ _ (by kernel_rfl) hr hg
    · refine ⟨_, rfl, rfl, fun f W K hS hK => ?_⟩
      simp only [putsL]
      go_wp2_with (refine wp_alloc (o := ⟨some 9, _, _, _, _, _⟩) rfl 26 rfl _ alloc_d32 ?_)
      intro w' hr hg hz
      go_wp2_with fail
      exact hK _ _ (by kernel_rfl) hr hg
    · intro g W hW hD
      have hH0 : Own w2 W [rowE (g 8) 26 zd, rowE (g 9) 26 zd, rowE g6 26 (c8 a), rowE g7 26 (c8 b)] := hD
      obtain ⟨g8, hg8⟩ : ∃ g8, g8 = g 8 := ⟨_, rfl⟩
      obtain ⟨g9, hg9⟩ : ∃ g9, g9 = g 9 := ⟨_, rfl⟩
      rw [← hg8, ← hg9] at hH0
      simp only [putsS, List.map_cons, List.map_nil, ← hg8, ← hg9]
      clear hD hW hg8 hg9
      go_simp
      clear hd
      refine wpMix_loudW _ rfl rfl ?_
      go_wp2_with (refine wp_storeAgg rfl 26 (.tmp 8) (.tmp 34) rfl g8 0 26 zd (c8 u) rfl rfl (hH0.row 0 rfl) Iu.out Fu.out (one8 _) ?_)
      intro wd8 hr hg hz
      clear hz
      rw [splice_all Eu.out] at hr
      have hH1 := hH0.setRow 0 rfl hr hg
      clear hr hg hH0
      go_wp2_with fail
      refine wpMix_next' (fun _ => hH1.tail.tail) ?_
      refine wpMix_loudW _ rfl rfl ?_
      go_wp2_with (refine wp_storeAgg rfl 26 (.tmp 9) (.tmp 38) rfl g9 0 26 zd (c8 v) rfl rfl (hH1.row 1 rfl) Iv.out Fv.out (one8 _) ?_)
      intro wd9 hr hg hz
      clear hz
      rw [splice_all Ev.out] at hr
      have hB := hH1.setRow 1 rfl hr hg
      clear hr hg hH1
      go_wp2_with fail
      refine wpMix_next' (fun _ => hB.tail.tail) ?_
      unfold wpMix
      by_cases hau : a = u
      · rw [decide_eq_true hau] at eau
        have HAU := Lib.hid hau
        clear hau
        by_cases hbv : b = v
        · rw [decide_eq_true hbv] at ebv
          have HN := Lib.hid (show ¬ (a ≠ u ∨ b ≠ v) by rintro (h | h); exact h HAU.out; exact h hbv)
          clear hbv HAU
          go_wp2_with (first | (refine wp_load rfl 26 (.tmp 6) rfl Try.underlying26 rfl ⟨g6, 0, none⟩ rfl (c8 a) Ia.out (row_all (hB.row 2 rfl)) ?_) | (refine wp_load rfl 26 (.tmp 8) rfl Try.underlying26 rfl ⟨g8, 0, none⟩ rfl (c8 u) Iu.out (row_all (hB.row 0 rfl)) ?_) | (refine wp_load rfl 26 (.tmp 7) rfl Try.underlying26 rfl ⟨g7, 0, none⟩ rfl (c8 b) Ib.out (row_all (hB.row 3 rfl)) ?_) | (refine wp_load rfl 26 (.tmp 9) rfl Try.underlying26 rfl ⟨g9, 0, none⟩ rfl (c8 v) Iv.out (row_all (hB.row 1 rfl)) ?_))
          have hC := hB.drew
          clear hB
          refine wp_region_mixC (fun W => Own w2 W _) (fun _ => true) [(0, true), (1, true), (2, true), (3, true), (4, true), (5, true), (6, false), (7, true)] (by kernel_rfl) (by kernel_rfl) hC ?_
          iterate 6 (refine wpMix_step rfl (fun K hK => ?_); go_simp; (try go_bits); with_reducible refine hK _ ?_; clear hK K)
          refine wpMix_loudW _ rfl rfl ?_
          go_wp2_with fail
          refine (csm _ hC.grown).mono ?_
          rintro e wD ⟨rfl, hg⟩
          have hD := hC.call hg
          clear hg hC
          go_wp2_with fail
          refine wpMix_next' (fun _ => hD) ?_
          iterate 1 (refine wpMix_step rfl (fun K hK => ?_); go_simp; (try go_bits); with_reducible refine hK _ ?_; clear hK K)
          unfold wpMix
          cases sm
          · have HRX := Lib.hid (show RES = R2 by rw [HRES.out, if_neg HN.out]; rfl)
            clear HRES HN
            go_wp2_with fail
            have hE := hD.drew
            clear hD
            refine wp_region_mixC (fun W => Own w2 W _) (fun _ => true) [(0, true), (1, true), (2, true), (3, true), (4, true), (5, true), (6, false), (7, false)] (by kernel_rfl) (by kernel_rfl) hE ?_
            iterate 6 (refine wpMix_step rfl (fun K hK => ?_); go_simp; (try go_bits); with_reducible refine hK _ ?_; clear hK K)
            refine wpMix_loudW _ rfl rfl ?_
            go_wp2_with fail
            refine (cr2 _ hE.grown).mono ?_
            rintro e wF ⟨rfl, hg⟩
            have hF := hE.call hg
            clear hg hE
            go_wp2_with fail
            refine wpMix_next' (fun _ => hF) ?_
            refine wpMix_loudW _ rfl rfl ?_
            go_wp2_with fail
            refine wpMix_next' (fun _ => hF) ?_
            unfold wpMix
            go_wp2
            go_ret
            exact ⟨by rw [HRX.out]; rfl, hF.grown⟩
          · have HRX := Lib.hid (show RES = R3 by rw [HRES.out, if_neg HN.out]; rfl)
            clear HRES HN
            go_wp2_with fail
            have hE := hD.drew
            clear hD
            refine wp_region_mixC (fun W => Own w2 W _) (fun _ => true) [(0, true), (1, true), (2, true), (3, true), (4, true), (5, true), (6, false), (7, false)] (by kernel_rfl) (by kernel_rfl) hE ?_
            iterate 6 (refine wpMix_step rfl (fun K hK => ?_); go_simp; (try go_bits); with_reducible refine hK _ ?_; clear hK K)
            refine wpMix_loudW _ rfl rfl ?_
            go_wp2_with fail
            refine (cr3 _ hE.grown).mono ?_
            rintro e wF ⟨rfl, hg⟩
            have hF := hE.call hg
            clear hg hE
            go_wp2_with fail
            refine wpMix_next' (fun _ => hF) ?_
            refine wpMix_loudW _ rfl rfl ?_
            go_wp2_with fail
            refine wpMix_next' (fun _ => hF) ?_
            unfold wpMix
            go_wp2
            go_ret
            exact ⟨by rw [HRX.out]; rfl, hF.grown⟩
        · rw [decide_eq_false hbv] at ebv
          have HRX := Lib.hid (show RES = R1 by rw [HRES.out, if_pos (.inr hbv)])
          clear hbv HAU HRES
          go_wp2_with (first | (refine wp_load rfl 26 (.tmp 6) rfl Try.underlying26 rfl ⟨g6, 0, none⟩ rfl (c8 a) Ia.out (row_all (hB.row 2 rfl)) ?_) | (refine wp_load rfl 26 (.tmp 8) rfl Try.underlying26 rfl ⟨g8, 0, none⟩ rfl (c8 u) Iu.out (row_all (hB.row 0 rfl)) ?_) | (refine wp_load rfl 26 (.tmp 7) rfl Try.underlying26 rfl ⟨g7, 0, none⟩ rfl (c8 b) Ib.out (row_all (hB.row 3 rfl)) ?_) | (refine wp_load rfl 26 (.tmp 9) rfl Try.underlying26 rfl ⟨g9, 0, none⟩ rfl (c8 v) Iv.out (row_all (hB.row 1 rfl)) ?_))
          have hP := hB.drew
          clear hB
          refine wp_region_mixC (fun W => Own w2 W _) (fun _ => true) [(0, true), (1, true), (3, true), (4, true), (2, false), (5, false), (6, false), (7, false)] (by kernel_rfl) (by kernel_rfl) hP ?_
          refine wpMix_pureW (.agg (c8 a).toArray) rfl rfl (fun W hW => run_load_op 26 (.tmp 6) rfl Try.underlying26 rfl ⟨g6, 0, none⟩ rfl _ Ia.out (row_all (hW.row 2 rfl))) ?_
          refine wpMix_pureW (.agg (c8 b).toArray) rfl rfl (fun W hW => run_load_op 26 (.tmp 7) rfl Try.underlying26 rfl ⟨g7, 0, none⟩ rfl _ Ib.out (row_all (hW.row 3 rfl))) ?_
          refine wpMix_pureW (.agg (c8 u).toArray) rfl rfl (fun W hW => run_load_op 26 (.tmp 8) rfl Try.underlying26 rfl ⟨g8, 0, none⟩ rfl _ Iu.out (row_all (hW.row 0 rfl))) ?_
          refine wpMix_pureW (.agg (c8 v).toArray) rfl rfl (fun W hW => run_load_op 26 (.tmp 9) rfl Try.underlying26 rfl ⟨g9, 0, none⟩ rfl _ Iv.out (row_all (hW.row 1 rfl))) ?_
          refine wpMix_loudW _ rfl rfl ?_
          go_wp2_with fail
          refine (rpair_any a b _ La.out Lb.out).mono ?_
          rintro e' wP ⟨vv, rfl, ho, hg⟩
          have hlP : (nodeB a b).length = 65 := by simp [nodeB, La.out, Lb.out]
          obtain ⟨AP, cP, rfl, hbP, _, _⟩ := own_open ho
          rw [hlP]
          have HBP := Lib.hid hbP
          have HLP := Lib.hid hlP
          have hP2 := hP.call hg
          clear hg hP ho hbP hlP
          go_wp2_with fail
          refine wpMix_next' (fun _ => hP2) ?_
          have hZ := Own.start wP
          refine wpMix_loudW _ rfl rfl ?_
          go_wp2_with fail
          refine (rpair_any u v _ Lu.out Lv.out).mono ?_
          rintro e' wR ⟨vv, rfl, ho, hg⟩
          have hlP : (nodeB u v).length = 65 := by simp [nodeB, Lu.out, Lv.out]
          obtain ⟨AQ, cQ, rfl, hbP, _, _⟩ := own_open ho
          rw [hlP]
          have HBQ := Lib.hid hbP
          have HLQ := Lib.hid hlP
          have hP4 := hP2.call hg
          have hZ3 := hZ.call hg
          clear hg hP2 ho hbP hlP hZ
          go_wp2_with fail
          refine wpMix_next' (fun _ => hP4) ?_
          have hap := apart_any AP AQ cP cQ _ _ wR (HBP.out.keep hZ3.grown) HBQ.out HLP.out HLQ.out
          rw [HR1.out] at hap
          clear hZ3
          refine wpMix_loudW _ rfl rfl ?_
          go_wp2_with fail
          refine (hap).mono ?_
          rintro e wS ⟨rfl, hg⟩
          have hP5 := hP4.call hg
          clear hg hP4
          go_wp2_with fail
          refine wpMix_next' (fun _ => hP5) ?_
          refine wpMix_loudW _ rfl rfl ?_
          go_wp2_with fail
          refine wpMix_next' (fun _ => hP5) ?_
          unfold wpMix
          go_wp2
          go_ret
          exact ⟨by rw [HRX.out]; rfl, hP5.grown⟩
      · rw [decide_eq_false hau] at eau
        have HRX := Lib.hid (show RES = R1 by rw [HRES.out, if_pos (.inl hau)])
        clear hau HRES
        go_wp2_with (first | (refine wp_load rfl 26 (.tmp 6) rfl Try.underlying26 rfl ⟨g6, 0, none⟩ rfl (c8 a) Ia.out (row_all (hB.row 2 rfl)) ?_) | (refine wp_load rfl 26 (.tmp 8) rfl Try.underlying26 rfl ⟨g8, 0, none⟩ rfl (c8 u) Iu.out (row_all (hB.row 0 rfl)) ?_) | (refine wp_load rfl 26 (.tmp 7) rfl Try.underlying26 rfl ⟨g7, 0, none⟩ rfl (c8 b) Ib.out (row_all (hB.row 3 rfl)) ?_) | (refine wp_load rfl 26 (.tmp 9) rfl Try.underlying26 rfl ⟨g9, 0, none⟩ rfl (c8 v) Iv.out (row_all (hB.row 1 rfl)) ?_))
        have hP := hB.drew
        clear hB
        refine wp_region_mixC (fun W => Own w2 W _) (fun _ => true) [(0, true), (1, true), (3, true), (4, true), (2, false), (5, false), (6, false), (7, false)] (by kernel_rfl) (by kernel_rfl) hP ?_
        refine wpMix_pureW (.agg (c8 a).toArray) rfl rfl (fun W hW => run_load_op 26 (.tmp 6) rfl Try.underlying26 rfl ⟨g6, 0, none⟩ rfl _ Ia.out (row_all (hW.row 2 rfl))) ?_
        refine wpMix_pureW (.agg (c8 b).toArray) rfl rfl (fun W hW => run_load_op 26 (.tmp 7) rfl Try.underlying26 rfl ⟨g7, 0, none⟩ rfl _ Ib.out (row_all (hW.row 3 rfl))) ?_
        refine wpMix_pureW (.agg (c8 u).toArray) rfl rfl (fun W hW => run_load_op 26 (.tmp 8) rfl Try.underlying26 rfl ⟨g8, 0, none⟩ rfl _ Iu.out (row_all (hW.row 0 rfl))) ?_
        refine wpMix_pureW (.agg (c8 v).toArray) rfl rfl (fun W hW => run_load_op 26 (.tmp 9) rfl Try.underlying26 rfl ⟨g9, 0, none⟩ rfl _ Iv.out (row_all (hW.row 1 rfl))) ?_
        refine wpMix_loudW _ rfl rfl ?_
        go_wp2_with fail
        refine (rpair_any a b _ La.out Lb.out).mono ?_
        rintro e' wP ⟨vv, rfl, ho, hg⟩
        have hlP : (nodeB a b).length = 65 := by simp [nodeB, La.out, Lb.out]
        obtain ⟨AP, cP, rfl, hbP, _, _⟩ := own_open ho
        rw [hlP]
        have HBP := Lib.hid hbP
        have HLP := Lib.hid hlP
        have hP2 := hP.call hg
        clear hg hP ho hbP hlP
        go_wp2_with fail
        refine wpMix_next' (fun _ => hP2) ?_
        have hZ := Own.start wP
        refine wpMix_loudW _ rfl rfl ?_
        go_wp2_with fail
        refine (rpair_any u v _ Lu.out Lv.out).mono ?_
        rintro e' wR ⟨vv, rfl, ho, hg⟩
        have hlP : (nodeB u v).length = 65 := by simp [nodeB, Lu.out, Lv.out]
        obtain ⟨AQ, cQ, rfl, hbP, _, _⟩ := own_open ho
        rw [hlP]
        have HBQ := Lib.hid hbP
        have HLQ := Lib.hid hlP
        have hP4 := hP2.call hg
        have hZ3 := hZ.call hg
        clear hg hP2 ho hbP hlP hZ
        go_wp2_with fail
        refine wpMix_next' (fun _ => hP4) ?_
        have hap := apart_any AP AQ cP cQ _ _ wR (HBP.out.keep hZ3.grown) HBQ.out HLP.out HLQ.out
        rw [HR1.out] at hap
        clear hZ3
        refine wpMix_loudW _ rfl rfl ?_
        go_wp2_with fail
        refine (hap).mono ?_
        rintro e wS ⟨rfl, hg⟩
        have hP5 := hP4.call hg
        clear hg hP4
        go_wp2_with fail
        refine wpMix_next' (fun _ => hP5) ?_
        refine wpMix_loudW _ rfl rfl ?_
        go_wp2_with fail
        refine wpMix_next' (fun _ => hP5) ?_
        unfold wpMix
        go_wp2
        go_ret
        exact ⟨by rw [HRX.out]; rfl, hP5.grown⟩

set_option maxRecDepth 100000 in
set_option maxHeartbeats 40000000 in
theorem differ_few (w : World) (A B : Option Addr) (c d n m : Nat) (hf : n ≠ m ∨ (n = m ∧ n < 2)) :
    Calls Try.prog 54 #[.slice A n c, .slice B m d] w fun e' w' => e' = .returned (.bool false) ∧ w.grownBy w' none := by
  rcases hf with hf | ⟨hf, hn⟩
  · have t1 : ((n : Int) != (m : Int)) = true := by simp; omega
    have t2 : (n != m) = true := by simp; omega
    have t3 : decide ((n : Int) = (m : Int)) = false := by simp; omega
    have t4 : decide (n = m) = false := by simp; omega
    have t5 : ((n : Int) == (m : Int)) = false := by simp; omega
    have t6 : ¬ n = m := hf
    clear hf
    go_enter Try.func54, Try.ntmps54
    go_wp2
    go_ret
    exact ⟨rfl, grownBy_refl _ _⟩
  · subst hf
    have t1 : decide ((n : Int) < 2) = true := by simp; omega
    have t2 : decide (n < 2) = true := by simp; omega
    have t3 : (n : Int) < 2 := by omega
    clear hn
    go_enter Try.func54, Try.ntmps54
    go_wp2
    go_ret
    exact ⟨rfl, grownBy_refl _ _⟩
theorem differ_any : ∀ (M : Nat) (A : Option Addr) (c : Nat) (L : Way) (B : Option Addr) (d : Nat) (K : Way) (w : World), L.length ≤ M → Rows32 w A c L → Rows32 w B d K → c ≤ 9223372036854775807 → d ≤ 9223372036854775807 → L.length ≤ 4398046510000 →
    Calls Try.prog 54 #[.slice A L.length c, .slice B K.length d] w fun e' w' => e' = .returned (.bool (differL L K)) ∧ w.grownBy w' none := by
  intro M
  induction M with
  | zero =>
    intro A c L B d K w hM hL hK hc hd hlm
    rw [differL_few (by omega)]
    exact differ_few w A B c d L.length K.length (by omega)
  | succ M ih =>
    intro A c L B d K w hM hL hK hc hd hlm
    by_cases hf : L.length ≠ K.length ∨ L.length < 2
    · rw [differL_few hf]
      exact differ_few w A B c d L.length K.length (by omega)
    · have h1 : L.length = K.length := by omega
      have h2 : 2 ≤ L.length := by omega
      have hlt := half_lt h2
      have hp := half_pos L.length
      have hle := hL.le
      have hke := hK.le
      have l1 : (L.take (half L.length)).length = half L.length := by simp; omega
      have l2 : (L.drop (half L.length)).length = L.length - half L.length := by simp
      have l3 : (K.take (half L.length)).length = half L.length := by simp; omega
      have l4 : (K.drop (half L.length)).length = L.length - half L.length := by simp [h1]
      have hLt := hL.take (half L.length) (by omega)
      have hLd := hL.drop (half L.length) (by omega)
      have hKt := hK.take (half L.length) (by omega)
      have hKd := hK.drop (half L.length) (by omega)
      have hsp := fun W => rhalf_any L.length W h2 (by omega)
      have hsT := fun W => run_to32 Try.underlying22 size_a A L.length c (half L.length) (by omega) W
      have hsF := fun W => run_from32 Try.underlying22 size_a A L.length c (half L.length) (by omega) hle W
      have hsT2 := fun W => run_to32 Try.underlying22 size_a B L.length d (half L.length) (by omega) W
      have hsF2 := fun W => run_from32 Try.underlying22 size_a B L.length d (half L.length) (by omega) (by omega) W
      have ca := fun W (hg : w.grownBy W none) => rroot_any _ A c (L.take (half L.length)) W (Nat.le_refl _) (hLt.keep hg) hc
      have cb := fun W (hg : w.grownBy W none) => rroot_any _ _ _ (L.drop (half L.length)) W (Nat.le_refl _) (hLd.keep hg) (by omega)
      have cu := fun W (hg : w.grownBy W none) => rroot_any _ B d (K.take (half L.length)) W (Nat.le_refl _) (hKt.keep hg) hd
      have cv := fun W (hg : w.grownBy W none) => rroot_any _ _ _ (K.drop (half L.length)) W (Nat.le_refl _) (hKd.keep hg) (by omega)
      have cm := fun W (hg : w.grownBy W none) => same_any A B c d _ _ W (hLt.keep hg) (hKt.keep hg) (by omega)
      have r2 := fun W (hg : w.grownBy W none) => ih A c (L.take (half L.length)) B d (K.take (half L.length)) W (by omega) (hLt.keep hg) (hKt.keep hg) hc hd (by omega)
      have r3 := fun W (hg : w.grownBy W none) => ih _ _ (L.drop (half L.length)) _ _ (K.drop (half L.length)) W (by omega) (hLd.keep hg) (hKd.keep hg) (by omega) (by omega) (by omega)
      rw [l1] at ca
      rw [l2] at cb
      rw [l3] at cu
      rw [l4] at cv
      rw [l1, l3] at cm
      rw [l1, l3] at r2
      rw [l2, l4] at r3
      rw [differL_two h1 h2, ← h1]
      refine (differ_core w A _ B _ c d L.length (half L.length) _ _ _ _ _ _ _ _ (Lib.hid (rootL_length _ hLt.all)) (Lib.hid (rootL_length _ hLd.all)) (Lib.hid (rootL_length _ hKt.all)) (Lib.hid (rootL_length _ hKd.all)) (by omega) (by omega) (by omega) (by omega) hsp hsT hsF hsT2 hsF2 ca cb cu cv cm r2 r3 (Lib.hid rfl)).mono fun e w' h => ⟨?_, h.2⟩
      rw [h.1]
      refine congrArg (fun z => Ending.returned (.bool z)) ?_
      by_cases hx : rootL (L.take (half L.length)) ≠ rootL (K.take (half L.length)) ∨ rootL (L.drop (half L.length)) ≠ rootL (K.drop (half L.length))
      · rw [if_pos hx, if_pos hx]; rfl
      · rw [if_neg hx, if_neg hx]
        by_cases hy : L.take (half L.length) = K.take (half L.length)
        · rw [if_neg (by simp [hy]), if_neg (by simp [hy])]
        · rw [if_pos (by simp [hy]), if_pos hy]
end Go.Proofs.Ytpohjldhbaalbaa
