/- The contracts of Root, the program's and the document's, and of the law's cut. -/
import Derived.Test.YtpohjldhbaalbaaNodes3
import Derived.Test.YtpohjldhbaalbaaHalf3
import Derived.Test.YtpohjldhbaalbaaFromTo3
namespace Go.Proofs.Ytpohjldhbaalbaa
set_option linter.unusedVariables false
set_option linter.unusedSimpArgs false
set_option linter.unusedSectionVars false
open Go.RowKit
set_option linter.unusedVariables false

theorem size_d : (Try.prog.info? 27).map (·.size) = some 32 := by kernel_rfl
theorem size_a : (Try.prog.info? 26).map (·.size) = some 32 := by kernel_rfl


set_option maxRecDepth 100000 in
set_option maxHeartbeats 4000000 in
theorem root_empty (A : Option Addr) (c : Nat) (w : World) : Calls Try.prog 17 #[.slice A 0 c] w fun e w' => e = .returned (.agg (c8 (rootL [])).toArray) ∧ w.grownBy w' none := by
  have hd := fun W => dsum_any 0 none [] W (Bytes.nil _ _) (by simp) (by omega) (by simp)
  obtain ⟨D, hD⟩ : ∃ D, D = sha [] := ⟨_, rfl⟩
  rw [← hD] at hd
  have hl := sha_length []
  rw [← hD] at hl
  have HFIT := Lib.hid (show 0 + (c8 D).length ≤ zd.length by rw [c8_length, hl]; decide)
  have HEQ := Lib.hid (show (c8 D).length = zd.length by rw [c8_length, hl]; decide)
  have HI := Lib.hid (info_dg D hl)
  have HRES := Lib.hid (show D = rootL [] by rw [rootL_nil, hD])
  clear hD hl
  go_enter Try.func17, Try.ntmps17
  go_wp2_with (refine wp_alloc (o := ⟨some 2, _, _, _, _, _⟩) rfl 27 rfl _ alloc_d ?_)
  intro w1 hr hg hz
  clear hz
  have hS1 := (Own.start w).new hr hg
  clear hr hg
  go_wp2_with fail
  refine (hd _).mono ?_
  rintro e w2 ⟨rfl, hg⟩
  have hS2 := hS1.call hg
  clear hg hS1
  go_wp2_with (refine wp_storeAgg rfl 27 (.tmp 2) (.tmp 8) rfl w.heap.size 0 27 zd (c8 (D)) rfl rfl (hS2.row 0 rfl) (by simpa using HI.out) HFIT.out (one8 _) ?_)
  intro wz hdr hgz _
  rw [splice_all HEQ.out] at hdr
  have hSz := hS2.setRow 0 rfl hdr hgz
  clear hdr hgz hS2
  go_wp2
  refine bodyPost_ret (v := .agg (c8 (D)).toArray) (results_cell_row rfl _ _ w.heap.size _ _ _ _ rfl (hSz.row 0 rfl) Try.underlying27 rfl (by simpa using HI.out)) rfl ⟨(by rw [HRES.out]), hSz.grown⟩
set_option maxRecDepth 100000 in
set_option maxHeartbeats 4000000 in
theorem root_one (A : Option Addr) (c : Nat) (L : List (List UInt8)) (w : World) (hL : Rows32 w A c L) (h1 : L.length = 1) :
    Calls Try.prog 17 #[.slice A 1 c] w fun e w' => e = .returned (.agg (c8 (rootL L)).toArray) ∧ w.grownBy w' none := by
  obtain ⟨b, off, rfl, hat⟩ := hL.at_ 0 (by omega)
  have hXl := hL.all.at_ 0 (by omega)
  have hres : L.getD 0 [] = rootL L := by
    match L, h1 with
    | [x], _ => rw [rootL_one]; rfl
  obtain ⟨D, hD⟩ : ∃ D, D = L.getD 0 [] := ⟨_, rfl⟩
  rw [← hD] at hat hXl hres
  have HAT := Lib.hid hat
  have HI := Lib.hid (info_dg D hXl)
  have HFIT := Lib.hid (show 0 + (c8 D).length ≤ zd.length by rw [c8_length, hXl]; decide)
  have HEQ := Lib.hid (show (c8 D).length = zd.length by rw [c8_length, hXl]; decide)
  have HRES := Lib.hid hres
  clear hat hXl hres hD hL h1
  go_enter Try.func17, Try.ntmps17
  go_wp2_with (refine wp_alloc (o := ⟨some 2, _, _, _, _, _⟩) rfl 27 rfl _ alloc_d ?_)
  intro w1 hr hg hz
  clear hz
  have hS1 := (Own.start w).new hr hg
  clear hr hg
  go_wp2_with (first | (refine wp_load rfl 27 (.tmp 12) rfl Try.underlying27 rfl ⟨b, off, none⟩ rfl (c8 D) HI.out (fun j u hj => hS1.cell (by simpa using HAT.out j u hj)) ?_) | (refine wp_storeAgg rfl 27 (.tmp 2) (.tmp 13) rfl w.heap.size 0 27 zd (c8 (D)) rfl rfl (hS1.row 0 rfl) (by simpa using HI.out) HFIT.out (one8 _) ?_))
  intro wz hdr hgz _
  rw [splice_all HEQ.out] at hdr
  have hSz := hS1.setRow 0 rfl hdr hgz
  clear hdr hgz hS1
  go_wp2
  refine bodyPost_ret (v := .agg (c8 (D)).toArray) (results_cell_row rfl _ _ w.heap.size _ _ _ _ rfl (hSz.row 0 rfl) Try.underlying27 rfl (by simpa using HI.out)) rfl ⟨(by rw [HRES.out]), hSz.grown⟩

set_option maxRecDepth 100000 in
set_option maxHeartbeats 4000000 in
theorem root_core (A : Option Addr) (c n h : Nat) (X Y D : List UInt8) (w : World) (HX : Hid (X.length = 32)) (HY : Hid (Y.length = 32)) (HD : Hid (D.length = 32)) (n2 : (2 : Int) ≤ (n : Int)) (n3 : (n : Int) ≤ 9223372036854775807) (h0 : (0 : Int) ≤ (h : Int)) (A' : Option Addr)
    (cs : ∀ W, Calls Try.prog 46 #[.int .i64 (n : Int)] W fun e w' => e = .returned (.int .i64 (h : Int)) ∧ w' = W)
    (hto : ∀ W, (Instr.slice 31 (.slice A n c) none (some (.int .i64 (h : Int))) none).run Try.prog W = .ok (.slice A h c) W)
    (hfr : ∀ W, (Instr.slice 31 (.slice A n c) (some (.int .i64 (h : Int))) none none).run Try.prog W = .ok (.slice A' (n - h) (c - h)) W)
    (cl : ∀ W, w.grownBy W none → Calls Try.prog 17 #[.slice A h c] W fun e w' => e = .returned (.agg (c8 X).toArray) ∧ W.grownBy w' none)
    (cr : ∀ W, w.grownBy W none → Calls Try.prog 17 #[.slice A' (n - h) (c - h)] W fun e w' => e = .returned (.agg (c8 Y).toArray) ∧ W.grownBy w' none)
    (cn : ∀ W, Calls Try.prog 43 #[.agg (c8 X).toArray, .agg (c8 Y).toArray] W fun e w' => e = .returned (.agg (c8 D).toArray) ∧ W.grownBy w' none) :
    Calls Try.prog 17 #[.slice A n c] w fun e w' => e = .returned (.agg (c8 D).toArray) ∧ w.grownBy w' none := by
  have HI := Lib.hid (info_dg D HD.out)
  have HFIT := Lib.hid (show 0 + (c8 D).length ≤ zd.length by rw [c8_length, HD.out]; decide)
  have HEQ := Lib.hid (show (c8 D).length = zd.length by rw [c8_length, HD.out]; decide)
  have t0 : decide ((n : Int) = 0) = false := by simp; omega
  have t1 : decide ((n : Int) = 1) = false := by simp; omega
  have t2 : ¬ (n : Int) = 0 := by omega
  have t3 : ¬ (n : Int) = 1 := by omega
  go_enter Try.func17, Try.ntmps17
  go_wp2_with (refine wp_alloc (o := ⟨some 2, _, _, _, _, _⟩) rfl 27 rfl _ alloc_d ?_)
  intro w1 hr hg hz
  clear hz
  have hS1 := (Own.start w).new hr hg
  clear hr hg
  go_wp2_with fail
  refine (cs _).mono ?_
  rintro e w2 ⟨rfl, rfl⟩
  go_wp2_with fail
  have hS2 := hS1.drew
  clear hS1
  refine wp_region_mixC (fun W => Own w W _) (fun i => i != 9) [(0, true), (1, true), (2, true), (4, true), (5, true), (6, true), (3, false), (7, false), (8, false), (9, false)] (by kernel_rfl) (by kernel_rfl) hS2 ?_
  iterate 6 (refine wpMix_step rfl (fun K hK => ?_); go_simp; (try go_bits); with_reducible refine hK _ ?_; clear hK K)
  refine wpMix_loudW _ rfl rfl ?_
  go_wp2_with fail
  refine (cl _ hS2.grown).mono ?_
  rintro e w3 ⟨rfl, hg⟩
  have hS3 := hS2.call hg
  clear hg hS2
  go_wp2_with fail
  refine wpMix_next' (fun _ => hS3) ?_
  refine wpMix_loudW _ rfl rfl ?_
  go_wp2_with fail
  refine (cr _ hS3.grown).mono ?_
  rintro e w4 ⟨rfl, hg⟩
  have hS4 := hS3.call hg
  clear hg hS3
  go_wp2_with fail
  refine wpMix_next' (fun _ => hS4) ?_
  refine wpMix_loudW _ rfl rfl ?_
  go_wp2_with fail
  refine (cn _).mono ?_
  rintro e w5 ⟨rfl, hg⟩
  have hS5 := hS4.call hg
  clear hg hS4
  go_wp2_with fail
  refine wpMix_next' (fun _ => hS5) ?_
  refine wpMix_loudW _ rfl rfl ?_
  go_wp2_with (refine wp_storeAgg rfl 27 (.tmp 2) (.tmp 25) rfl w.heap.size 0 27 zd (c8 D) rfl rfl (hS5.row 0 rfl) (by simpa using HI.out) HFIT.out (one8 _) ?_)
  intro wz hdr hgz _
  rw [splice_all HEQ.out] at hdr
  have hSz := hS5.setRow 0 rfl hdr hgz
  clear hdr hgz hS5
  go_wp2_with fail
  refine wpMix_next' (fun h => absurd h (by decide)) ?_
  unfold wpMix
  go_wp2
  refine bodyPost_ret (v := .agg (c8 D).toArray) (results_cell_row rfl _ _ w.heap.size _ _ _ _ rfl (hSz.row 0 rfl) Try.underlying27 rfl (by simpa using HI.out)) rfl ⟨rfl, hSz.grown⟩

theorem root_any : ∀ (m : Nat) (A : Option Addr) (c : Nat) (L : List (List UInt8)) (w : World), L.length ≤ m → Rows32 w A c L → c ≤ 9223372036854775807 → Calls Try.prog 17 #[.slice A L.length c] w fun e w' => e = .returned (.agg (c8 (rootL L)).toArray) ∧ w.grownBy w' none := by
  intro m
  induction m with
  | zero =>
    intro A c L w hm hL hc
    have := List.eq_nil_of_length_eq_zero (show L.length = 0 by omega)
    subst this
    exact root_empty A c w
  | succ m ih =>
    intro A c L w hm hL hc
    rcases Nat.lt_or_ge L.length 2 with h2 | h2
    · rcases Nat.lt_or_ge L.length 1 with h1 | h1
      · have := List.eq_nil_of_length_eq_zero (show L.length = 0 by omega)
        subst this
        exact root_empty A c w
      · have e1 : L.length = 1 := by omega
        rw [e1]
        exact root_one A c L w hL e1
    · have hlt := half_lt h2
      have hp := half_pos L.length
      have hle := hL.le
      have hto := hL.take (half L.length) (by omega)
      have hfr := hL.drop (half L.length) (by omega)
      have l1 : (L.take (half L.length)).length = half L.length := by simp; omega
      have l2 : (L.drop (half L.length)).length = L.length - half L.length := by simp
      refine root_core A c L.length (half L.length) (rootL (L.take (half L.length))) (rootL (L.drop (half L.length))) (rootL L) w (Lib.hid (rootL_length _ hto.all)) (Lib.hid (rootL_length _ hfr.all)) (Lib.hid (rootL_length _ hL.all)) (by omega) (by omega) (by omega) _
        (fun W => split_any L.length W h2 (by omega)) (fun W => run_to32 Try.underlying31 size_d A L.length c _ (by omega) W) (fun W => run_from32 Try.underlying31 size_d A L.length c _ (by omega) hle W) (fun W hg => ?_) (fun W hg => ?_) (fun W => ?_)
      · have := ih A c (L.take (half L.length)) W (by rw [l1]; omega) (hto.keep hg) hc
        rw [l1] at this
        exact this
      · have := ih _ _ (L.drop (half L.length)) W (by rw [l2]; omega) (hfr.keep hg) (by omega)
        rw [l2] at this
        exact this
      · rw [rootL_two h2]
        exact node_any _ _ W (rootL_length _ hto.all) (rootL_length _ hfr.all)

set_option maxRecDepth 100000 in
set_option maxHeartbeats 4000000 in
theorem rroot_empty (A : Option Addr) (c : Nat) (w : World) : Calls Try.prog 19 #[.slice A 0 c] w fun e w' => e = .returned (.agg (c8 (rootL [])).toArray) ∧ w.grownBy w' none := by
  have hd := fun W => rsum_any 0 none [] W (Bytes.nil _ _) (by simp)
  obtain ⟨D, hD⟩ : ∃ D, D = sha [] := ⟨_, rfl⟩
  rw [← hD] at hd
  have hl := sha_length []
  rw [← hD] at hl
  have HFIT := Lib.hid (show 0 + (c8 D).length ≤ zd.length by rw [c8_length, hl]; decide)
  have HEQ := Lib.hid (show (c8 D).length = zd.length by rw [c8_length, hl]; decide)
  have HI := Lib.hid (info_a32 D hl)
  have HRES := Lib.hid (show D = rootL [] by rw [rootL_nil, hD])
  clear hD hl
  go_enter Try.func19, Try.ntmps19
  go_wp2_with (refine wp_alloc (o := ⟨some 2, _, _, _, _, _⟩) rfl 26 rfl _ alloc_d32 ?_)
  intro w1 hr hg hz
  clear hz
  have hS1 := (Own.start w).new hr hg
  clear hr hg
  go_wp2_with fail
  refine (hd _).mono ?_
  rintro e w2 ⟨rfl, hg⟩
  have hS2 := hS1.call hg
  clear hg hS1
  go_wp2_with (refine wp_storeAgg rfl 26 (.tmp 2) (.tmp 9) rfl w.heap.size 0 26 zd (c8 (D)) rfl rfl (hS2.row 0 rfl) (by simpa using HI.out) HFIT.out (one8 _) ?_)
  intro wz hdr hgz _
  rw [splice_all HEQ.out] at hdr
  have hSz := hS2.setRow 0 rfl hdr hgz
  clear hdr hgz hS2
  go_wp2
  refine bodyPost_ret (v := .agg (c8 (D)).toArray) (results_cell_row rfl _ _ w.heap.size _ _ _ _ rfl (hSz.row 0 rfl) Try.underlying26 rfl (by simpa using HI.out)) rfl ⟨(by rw [HRES.out]), hSz.grown⟩
set_option maxRecDepth 100000 in
set_option maxHeartbeats 4000000 in
theorem rroot_one (A : Option Addr) (c : Nat) (L : List (List UInt8)) (w : World) (hL : Rows32 w A c L) (h1 : L.length = 1) :
    Calls Try.prog 19 #[.slice A 1 c] w fun e w' => e = .returned (.agg (c8 (rootL L)).toArray) ∧ w.grownBy w' none := by
  obtain ⟨b, off, rfl, hat⟩ := hL.at_ 0 (by omega)
  have hXl := hL.all.at_ 0 (by omega)
  have hres : L.getD 0 [] = rootL L := by
    match L, h1 with
    | [x], _ => rw [rootL_one]; rfl
  obtain ⟨D, hD⟩ : ∃ D, D = L.getD 0 [] := ⟨_, rfl⟩
  rw [← hD] at hat hXl hres
  have HAT := Lib.hid hat
  have HI := Lib.hid (info_a32 D hXl)
  have HFIT := Lib.hid (show 0 + (c8 D).length ≤ zd.length by rw [c8_length, hXl]; decide)
  have HEQ := Lib.hid (show (c8 D).length = zd.length by rw [c8_length, hXl]; decide)
  have HRES := Lib.hid hres
  clear hat hXl hres hD hL h1
  go_enter Try.func19, Try.ntmps19
  go_wp2_with (refine wp_alloc (o := ⟨some 2, _, _, _, _, _⟩) rfl 26 rfl _ alloc_d32 ?_)
  intro w1 hr hg hz
  clear hz
  have hS1 := (Own.start w).new hr hg
  clear hr hg
  go_wp2_with (first | (refine wp_load rfl 26 (.tmp 14) rfl Try.underlying26 rfl ⟨b, off, none⟩ rfl (c8 D) HI.out (fun j u hj => hS1.cell (by simpa using HAT.out j u hj)) ?_) | (refine wp_storeAgg rfl 26 (.tmp 2) (.tmp 15) rfl w.heap.size 0 26 zd (c8 (D)) rfl rfl (hS1.row 0 rfl) (by simpa using HI.out) HFIT.out (one8 _) ?_))
  intro wz hdr hgz _
  rw [splice_all HEQ.out] at hdr
  have hSz := hS1.setRow 0 rfl hdr hgz
  clear hdr hgz hS1
  go_wp2
  refine bodyPost_ret (v := .agg (c8 (D)).toArray) (results_cell_row rfl _ _ w.heap.size _ _ _ _ rfl (hSz.row 0 rfl) Try.underlying26 rfl (by simpa using HI.out)) rfl ⟨(by rw [HRES.out]), hSz.grown⟩

set_option maxRecDepth 100000 in
set_option maxHeartbeats 4000000 in
theorem rroot_core (A : Option Addr) (c n h : Nat) (X Y D : List UInt8) (w : World) (HX : Hid (X.length = 32)) (HY : Hid (Y.length = 32)) (HD : Hid (D.length = 32)) (n2 : (2 : Int) ≤ (n : Int)) (n3 : (n : Int) ≤ 9223372036854775807) (h0 : (0 : Int) ≤ (h : Int)) (A' : Option Addr)
    (cs : ∀ W, Calls Try.prog 47 #[.int .i64 (n : Int)] W fun e w' => e = .returned (.int .i64 (h : Int)) ∧ w' = W)
    (hto : ∀ W, (Instr.slice 22 (.slice A n c) none (some (.int .i64 (h : Int))) none).run Try.prog W = .ok (.slice A h c) W)
    (hfr : ∀ W, (Instr.slice 22 (.slice A n c) (some (.int .i64 (h : Int))) none none).run Try.prog W = .ok (.slice A' (n - h) (c - h)) W)
    (cl : ∀ W, w.grownBy W none → Calls Try.prog 19 #[.slice A h c] W fun e w' => e = .returned (.agg (c8 X).toArray) ∧ W.grownBy w' none)
    (cr : ∀ W, w.grownBy W none → Calls Try.prog 19 #[.slice A' (n - h) (c - h)] W fun e w' => e = .returned (.agg (c8 Y).toArray) ∧ W.grownBy w' none)
    (cn : ∀ W, Calls Try.prog 41 #[.agg (c8 X).toArray, .agg (c8 Y).toArray] W fun e w' => e = .returned (.agg (c8 D).toArray) ∧ W.grownBy w' none) :
    Calls Try.prog 19 #[.slice A n c] w fun e w' => e = .returned (.agg (c8 D).toArray) ∧ w.grownBy w' none := by
  have HI := Lib.hid (info_a32 D HD.out)
  have HFIT := Lib.hid (show 0 + (c8 D).length ≤ zd.length by rw [c8_length, HD.out]; decide)
  have HEQ := Lib.hid (show (c8 D).length = zd.length by rw [c8_length, HD.out]; decide)
  have HRES := Lib.hid (show D = D from rfl)
  have HIX := Lib.hid (info_a32 X HX.out)
  have HFX := Lib.hid (show 0 + (c8 X).length ≤ zd.length by rw [c8_length, HX.out]; decide)
  have HEX := Lib.hid (show (c8 X).length = zd.length by rw [c8_length, HX.out]; decide)
  have HIY := Lib.hid (info_a32 Y HY.out)
  have HFY := Lib.hid (show 0 + (c8 Y).length ≤ zd.length by rw [c8_length, HY.out]; decide)
  have HEY := Lib.hid (show (c8 Y).length = zd.length by rw [c8_length, HY.out]; decide)
  have t0 : decide ((n : Int) = 0) = false := by simp; omega
  have t1 : decide ((n : Int) = 1) = false := by simp; omega
  have t2 : ¬ (n : Int) = 0 := by omega
  have t3 : ¬ (n : Int) = 1 := by omega
  go_enter Try.func19, Try.ntmps19
  go_wp2_with (refine wp_alloc (o := ⟨some 2, _, _, _, _, _⟩) rfl 26 rfl _ alloc_d32 ?_)
  intro w1 hr hg hz
  clear hz
  have hS1 := (Own.start w).new hr hg
  clear hr hg
  go_wp2_with fail
  refine (cs _).mono ?_
  rintro e w2 ⟨rfl, rfl⟩
  go_wp2_with fail
  refine (cl _ hS1.grown).mono ?_
  rintro e w3 ⟨rfl, hg⟩
  have hS2 := hS1.call hg
  clear hg hS1
  go_wp2_with (refine wp_alloc (o := ⟨some 4, _, _, _, _, _⟩) rfl 26 rfl _ alloc_d32 ?_)
  intro w4 hr hg hz
  clear hz
  have hS4 := hS2.new hr hg
  clear hr hg
  go_wp2_with (refine wp_storeAgg rfl 26 (.tmp 4) (.tmp 22) rfl w3.heap.size 0 26 zd (c8 X) rfl rfl (hS4.row 0 rfl) (by simpa using HIX.out) HFX.out (one8 _) ?_)
  intro w5 hdr hgz _
  rw [splice_all HEX.out] at hdr
  have hS5 := hS4.setRow 0 rfl hdr hgz
  clear hdr hgz hS4 hS2
  go_wp2_with fail
  refine (cr _ hS5.grown).mono ?_
  rintro e w6 ⟨rfl, hg⟩
  have hS6 := hS5.call hg
  clear hg hS5
  go_wp2_with (refine wp_alloc (o := ⟨some 5, _, _, _, _, _⟩) rfl 26 rfl _ alloc_d32 ?_)
  intro w7 hr hg hz
  clear hz
  have hS7 := hS6.new hr hg
  clear hr hg
  go_wp2_with (refine wp_storeAgg rfl 26 (.tmp 5) (.tmp 26) rfl w6.heap.size 0 26 zd (c8 Y) rfl rfl (hS7.row 0 rfl) (by simpa using HIY.out) HFY.out (one8 _) ?_)
  intro w8 hdr hgz _
  rw [splice_all HEY.out] at hdr
  have hS8 := hS7.setRow 0 rfl hdr hgz
  clear hdr hgz hS7 hS6
  go_wp2_with (first | (refine wp_load rfl 26 (.tmp 4) rfl Try.underlying26 rfl ⟨w3.heap.size, 0, none⟩ rfl (c8 X) HIX.out (row_all (hS8.row 1 rfl)) ?_) | (refine wp_load rfl 26 (.tmp 5) rfl Try.underlying26 rfl ⟨w6.heap.size, 0, none⟩ rfl (c8 Y) HIY.out (row_all (hS8.row 0 rfl)) ?_))
  refine (cn _).mono ?_
  rintro e w9 ⟨rfl, hg⟩
  have hS9 := hS8.call hg
  clear hg hS8
  go_wp2_with (refine wp_storeAgg rfl 26 (.tmp 2) (.tmp 29) rfl w.heap.size 0 26 zd (c8 (D)) rfl rfl (hS9.row 2 rfl) (by simpa using HI.out) HFIT.out (one8 _) ?_)
  intro wz hdr hgz _
  rw [splice_all HEQ.out] at hdr
  have hSz := hS9.setRow 2 rfl hdr hgz
  clear hdr hgz hS9
  go_wp2
  refine bodyPost_ret (v := .agg (c8 (D)).toArray) (results_cell_row rfl _ _ w.heap.size _ _ _ _ rfl (hSz.row 2 rfl) Try.underlying26 rfl (by simpa using HI.out)) rfl ⟨rfl, hSz.grown⟩

theorem rroot_any : ∀ (m : Nat) (A : Option Addr) (c : Nat) (L : List (List UInt8)) (w : World), L.length ≤ m → Rows32 w A c L → c ≤ 9223372036854775807 → Calls Try.prog 19 #[.slice A L.length c] w fun e w' => e = .returned (.agg (c8 (rootL L)).toArray) ∧ w.grownBy w' none := by
  intro m
  induction m with
  | zero =>
    intro A c L w hm hL hc
    have := List.eq_nil_of_length_eq_zero (show L.length = 0 by omega)
    subst this
    exact rroot_empty A c w
  | succ m ih =>
    intro A c L w hm hL hc
    rcases Nat.lt_or_ge L.length 2 with h2 | h2
    · rcases Nat.lt_or_ge L.length 1 with h1 | h1
      · have := List.eq_nil_of_length_eq_zero (show L.length = 0 by omega)
        subst this
        exact rroot_empty A c w
      · have e1 : L.length = 1 := by omega
        rw [e1]
        exact rroot_one A c L w hL e1
    · have hlt := half_lt h2
      have hp := half_pos L.length
      have hle := hL.le
      have hto := hL.take (half L.length) (by omega)
      have hfr := hL.drop (half L.length) (by omega)
      have l1 : (L.take (half L.length)).length = half L.length := by simp; omega
      have l2 : (L.drop (half L.length)).length = L.length - half L.length := by simp
      refine rroot_core A c L.length (half L.length) (rootL (L.take (half L.length))) (rootL (L.drop (half L.length))) (rootL L) w (Lib.hid (rootL_length _ hto.all)) (Lib.hid (rootL_length _ hfr.all)) (Lib.hid (rootL_length _ hL.all)) (by omega) (by omega) (by omega) _
        (fun W => rhalf_any L.length W h2 (by omega)) (fun W => run_to32 Try.underlying22 size_a A L.length c _ (by omega) W) (fun W => run_from32 Try.underlying22 size_a A L.length c _ (by omega) hle W) (fun W hg => ?_) (fun W hg => ?_) (fun W => ?_)
      · have := ih A c (L.take (half L.length)) W (by rw [l1]; omega) (hto.keep hg) hc
        rw [l1] at this
        exact this
      · have := ih _ _ (L.drop (half L.length)) W (by rw [l2]; omega) (hfr.keep hg) (by omega)
        rw [l2] at this
        exact this
      · rw [rootL_two h2]
        exact rnode_any _ _ W (rootL_length _ hto.all) (rootL_length _ hfr.all)

set_option maxRecDepth 100000 in
set_option maxHeartbeats 4000000 in
theorem cut_any (A : Option Addr) (c : Nat) (L : List (List UInt8)) (most : Nat) (w : World) (hL : Rows32 w A c L) (hmax : c ≤ 4398046511104) (hm : most ≤ 4398046511104) :
    Calls Try.prog 13 #[.slice A L.length c, .int .i64 (most : Int)] w fun e w' => ∃ v, e = .returned v ∧ OwnsR w' w.heap.size 26 v (L.take most) ∧ w.grownBy w' none := by
  have HL := Lib.hid hL
  have HM := Lib.hid hmax
  have hle := hL.le
  obtain ⟨n, hn⟩ : ∃ n, n = L.length := ⟨_, rfl⟩
  obtain ⟨k, hk⟩ : ∃ k, k = min most n := ⟨_, rfl⟩
  have hk1 : (if (most : Int) < (n : Int) then (most : Int) else (n : Int)) = (k : Int) := by rw [hk]; split <;> omega
  have hk0 : min (n : Int) (most : Int) = (k : Int) := by omega
  have hk1' : (if (n : Int) < (most : Int) then (n : Int) else (most : Int)) = (k : Int) := by rw [hk]; split <;> omega
  have hk2 : (if most < n then (most : Int) else (n : Int)) = (k : Int) := by rw [hk]; split <;> omega
  have hsl := fun W => run_to32 Try.underlying22 size_a A n c k (by omega) W
  have HK := Lib.hid (show k ≤ L.length by omega)
  have HT := Lib.hid (show L.take most = L.take k by rw [hk, hn]; rcases Nat.le_total most L.length with h | h; · rw [Nat.min_eq_left h]
                                                     · rw [Nat.min_eq_right h, List.take_of_length_le h, List.take_of_length_le (Nat.le_refl _)])
  rw [← hn, HT.out]
  have HKL := Lib.hid (show (L.take k).length = k by have := HK.out; simp; omega)
  have HK2 := Lib.hid (show k ≤ 4398046511104 by omega)
  have hSB : Own w (w.alloc (.cells #[] 26)) [rowsE w.heap.size 26 (.slice (some ⟨w.heap.size, 0, none⟩) 0 0) []] :=
    (Own.start w).newE (World.grownBy_alloc _ _ none) (rowsE_good _ _ _ _) ⟨L32.nil, rfl, .inr ⟨w.heap.size, 0, #[], rfl, Nat.le_refl _, Row.new w 26 [], Nat.le_refl _, by simp [maxLen], rfl, rfl⟩⟩ (fun k hk => by cases hk; exact Nat.le_refl _)
  clear hL hmax hn hk hle hm
  go_enter Try.func13, Try.ntmps13
  go_wp2_with (refine wp_appR rfl (.tmp 5) (.tmp 11) 22 rfl 26 Try.underlying22 info_ra [] (L.take k) rfl (hSB.rows 0 rfl) A k c (L.take k) rfl (HL.out.all.take k) (((HL.out.keep hSB.grown).take k HK.out).src) HKL.out rfl (by rw [HKL.out]; have := HK2.out; simp; omega) hSB.size ?_)
  intro v' w8 ho hg hv
  have hS9 := hSB.appendR 0 rfl ho hg (by first | exact hv | simpa using hv)
  clear hSB ho hg hv
  go_wp2
  go_ret
  exact ⟨_, rfl, hS9.rows 0 rfl, hS9.grown⟩
end Go.Proofs.Ytpohjldhbaalbaa
