/- The contract of the document's Grow. -/
import Derived.Test.YtpohjldhbaalbaaBoth3
namespace Go.Proofs.Ytpohjldhbaalbaa
set_option linter.unusedVariables false
set_option linter.unusedSimpArgs false
set_option linter.unusedSectionVars false
open Go.RowKit
set_option linter.unusedVariables false

set_option maxRecDepth 100000 in
set_option maxHeartbeats 8000000 in
theorem rgrow_whole (w : World) (old : List UInt8) (m n q c : Nat) (A : Option Addr) (HO : Hid (old.length = 32)) (hmn : m = n) :
    Calls Try.prog 28 #[.agg (c8 old).toArray, .int .i64 (m : Int), .int .i64 (n : Int), .bool true, .slice A q c] w fun e' w' => e' = .returned (.agg (bothC old old (.slice A q c) true).toArray) ∧ w.grownBy w' none := by
  subst hmn
  have Iold := Lib.hid (info_a32 old HO.out)
  have Fold := Lib.hid (show 0 + (c8 old).length ≤ zd.length by rw [c8_length, HO.out]; decide)
  have Eold := Lib.hid (show (c8 old).length = zd.length by rw [c8_length, HO.out]; decide)
  have l1 : (bothC old old (.slice A q c) true).length = 66 := bothC_length _ _ _ _ HO.out HO.out
  have BB1 := Lib.hid (built_both old old (.slice A q c) true HO.out HO.out rfl)
  have BI1 := Lib.hid (info_both _ l1)
  have BF1 := Lib.hid (show 0 + (bothC old old (.slice A q c) true).length ≤ bothZ.length by rw [l1]; decide)
  have BE1 := Lib.hid (show (bothC old old (.slice A q c) true).length = bothZ.length by rw [l1]; decide)
  clear l1
  go_enter Try.func28, Try.ntmps28
  go_wp2_with (refine wp_box (o := ⟨some 5, _, _, _, _, _⟩) rfl 26 (.tmp 0) rfl (c8 old) rfl ?_)
  intro w1 hr hg hz
  clear hz
  have hS1 := ((Own.start w)).new hr hg
  clear hr hg
  go_wp2_with (refine wp_alloc (o := ⟨some 10, _, _, _, _, _⟩) rfl 50 rfl _ alloc_both ?_)
  intro w2 hr hg hz
  clear hz
  have hS2 := hS1.new hr hg
  clear hr hg
  clear hS1
  go_wp2_with (first | (refine wp_load rfl 26 (.tmp 5) rfl Try.underlying26 rfl ⟨w.heap.size, 0, none⟩ rfl (c8 old) Iold.out (row_all (hS2.row 1 rfl)) ?_) | (refine wp_built rfl 50 _ rfl _ rfl (bothC old old (.slice A q c) true).toArray BB1.out ?_) | (refine wp_storeAgg rfl 50 (.tmp 10) (.tmp 21) rfl w1.heap.size 0 50 bothZ (bothC old old (.slice A q c) true) rfl rfl (hS2.row 0 rfl) BI1.out BF1.out (one_both old old A q c true) ?_))
  intro w3 hr hg hz
  clear hz
  rw [splice_all BE1.out] at hr
  have hS3 := hS2.setRow 0 rfl hr hg
  clear hr hg hS2
  go_wp2
  exact bodyPost_ret (v := .agg (bothC old old (.slice A q c) true).toArray) (results_cell_row rfl _ _ w1.heap.size _ _ _ _ rfl (hS3.row 0 rfl) Try.underlying50 rfl BI1.out) rfl ⟨rfl, hS3.grown⟩

set_option maxRecDepth 100000 in
set_option maxHeartbeats 8000000 in
theorem rgrow_none (w : World) (old : List UInt8) (m n c : Nat) (A : Option Addr) (HO : Hid (old.length = 32)) (hmn : m = n) :
    Calls Try.prog 28 #[.agg (c8 old).toArray, .int .i64 (m : Int), .int .i64 (n : Int), .bool false, .slice A 0 c] w fun e' w' => e' = .returned (.agg (bothZ).toArray) ∧ w.grownBy w' none := by
  subst hmn
  have Iold := Lib.hid (info_a32 old HO.out)
  have Fold := Lib.hid (show 0 + (c8 old).length ≤ zd.length by rw [c8_length, HO.out]; decide)
  have Eold := Lib.hid (show (c8 old).length = zd.length by rw [c8_length, HO.out]; decide)
  have BIN := Lib.hid (info_both bothZ rfl)
  have BFN := Lib.hid (show 0 + bothZ.length ≤ bothZ.length by decide)
  go_enter Try.func28, Try.ntmps28
  go_wp2_with (refine wp_box (o := ⟨some 5, _, _, _, _, _⟩) rfl 26 (.tmp 0) rfl (c8 old) rfl ?_)
  intro w1 hr hg hz
  clear hz
  have hS1 := ((Own.start w)).new hr hg
  clear hr hg
  go_wp2_with (refine wp_alloc (o := ⟨some 10, _, _, _, _, _⟩) rfl 50 rfl _ alloc_both ?_)
  intro w2 hr hg hz
  clear hz
  have hS2 := hS1.new hr hg
  clear hr hg
  clear hS1
  go_wp2_with (first | (refine wp_built rfl 50 _ rfl _ rfl (bothZ).toArray built_none ?_) | (refine wp_storeAgg rfl 50 (.tmp 10) (.tmp 25) rfl w1.heap.size 0 50 bothZ (bothZ) rfl rfl (hS2.row 0 rfl) BIN.out BFN.out (one_both zeros32 zeros32 none 0 0 false) ?_))
  intro w3 hr hg hz
  clear hz
  rw [splice_all rfl] at hr
  have hS3 := hS2.setRow 0 rfl hr hg
  clear hr hg hS2
  go_wp2
  exact bodyPost_ret (v := .agg (bothZ).toArray) (results_cell_row rfl _ _ w1.heap.size _ _ _ _ rfl (hS3.row 0 rfl) Try.underlying50 rfl BIN.out) rfl ⟨rfl, hS3.grown⟩

set_option maxRecDepth 100000 in
set_option maxHeartbeats 8000000 in
theorem rgrow_take (w : World) (old z : List UInt8) (m n q c b off : Nat) (B2 : Option Addr) (HO : Hid (old.length = 32)) (HZ : Hid (z.length = 32)) (hmn : m = n) (hq : (0 : Int) < (q : Int)) (hq' : 0 < q) (HAT : Hid (∀ j u, (c8 z)[j]? = some u → w.cell? ((⟨b, off, none⟩ : Addr).add j) = some u))
    (hfr : ∀ W, (Instr.slice 22 (.slice (some ⟨b, off, none⟩) q c) (some (.int .i64 1)) none none).run Try.prog W = .ok (.slice B2 (q - 1) (c - 1)) W) :
    Calls Try.prog 28 #[.agg (c8 old).toArray, .int .i64 (m : Int), .int .i64 (n : Int), .bool false, .slice (some ⟨b, off, none⟩) q c] w fun e' w' => e' = .returned (.agg (bothC z z (.slice B2 (q - 1) (c - 1)) true).toArray) ∧ w.grownBy w' none := by
  subst hmn
  have Iold := Lib.hid (info_a32 old HO.out)
  have Fold := Lib.hid (show 0 + (c8 old).length ≤ zd.length by rw [c8_length, HO.out]; decide)
  have Eold := Lib.hid (show (c8 old).length = zd.length by rw [c8_length, HO.out]; decide)
  have Iz := Lib.hid (info_a32 z HZ.out)
  have Fz := Lib.hid (show 0 + (c8 z).length ≤ zd.length by rw [c8_length, HZ.out]; decide)
  have Ez := Lib.hid (show (c8 z).length = zd.length by rw [c8_length, HZ.out]; decide)
  have l1 : (bothC z z (.slice B2 (q - 1) (c - 1)) true).length = 66 := bothC_length _ _ _ _ HZ.out HZ.out
  have BB1 := Lib.hid (built_both z z (.slice B2 (q - 1) (c - 1)) true HZ.out HZ.out rfl)
  have BI1 := Lib.hid (info_both _ l1)
  have BF1 := Lib.hid (show 0 + (bothC z z (.slice B2 (q - 1) (c - 1)) true).length ≤ bothZ.length by rw [l1]; decide)
  have BE1 := Lib.hid (show (bothC z z (.slice B2 (q - 1) (c - 1)) true).length = bothZ.length by rw [l1]; decide)
  clear l1
  have k2 : decide ((q : Int) = 0) = false := by simp; omega
  have k3 : ¬ q = 0 := by omega
  have k4 : ((q : Int) == 0) = false := by simp; omega
  go_enter Try.func28, Try.ntmps28
  go_wp2_with (refine wp_box (o := ⟨some 5, _, _, _, _, _⟩) rfl 26 (.tmp 0) rfl (c8 old) rfl ?_)
  intro w1 hr hg hz
  clear hz
  have hS1 := ((Own.start w)).new hr hg
  clear hr hg
  go_wp2_with (refine wp_alloc (o := ⟨some 10, _, _, _, _, _⟩) rfl 50 rfl _ alloc_both ?_)
  intro w2 hr hg hz
  clear hz
  have hS2 := hS1.new hr hg
  clear hr hg
  clear hS1
  go_wp2
  have hR := hS2.drew
  clear hS2
  refine wp_region_mixC (fun W => Own w W []) (fun _ => true) [(0, true), (1, true), (2, true), (3, true), (4, true), (5, true), (6, true), (7, true), (8, true), (9, false)] (by kernel_rfl) (by kernel_rfl) (hR.sub (List.nil_sublist _)) ?_
  iterate 2 (refine wpMix_step rfl (fun K hK => ?_); go_simp; (try go_bits); with_reducible refine hK _ ?_; clear hK K)
  refine wpMix_pureW (.agg (c8 z).toArray) rfl rfl (fun W hW => run_load_op 26 (.tmp 27) rfl Try.underlying26 rfl ⟨b, off, none⟩ rfl _ Iz.out (fun j u hu => hW.cell (HAT.out j u hu))) ?_
  iterate 2 (refine wpMix_step rfl (fun K hK => ?_); go_simp; (try go_bits); with_reducible refine hK _ ?_; clear hK K)
  refine wpMix_pureW (.agg (c8 z).toArray) rfl rfl (fun W hW => run_load_op 26 (.tmp 30) rfl Try.underlying26 rfl ⟨b, off, none⟩ rfl _ Iz.out (fun j u hu => hW.cell (HAT.out j u hu))) ?_
  iterate 2 (refine wpMix_step rfl (fun K hK => ?_); go_simp; (try go_bits); with_reducible refine hK _ ?_; clear hK K)
  refine wpMix_pureW (.agg (bothC z z (.slice B2 (q - 1) (c - 1)) true).toArray) rfl rfl (fun W hW => run_build_op 50 #[(0, .tmp 28), (1, .tmp 31), (2, .tmp 33), (3, .const (.bool true))] rfl _ rfl _ BB1.out) ?_
  refine wpMix_loudW _ rfl rfl ?_
  go_wp2_with (refine wp_storeAgg rfl 50 (.tmp 10) (.tmp 34) rfl w1.heap.size 0 50 bothZ (bothC z z (.slice B2 (q - 1) (c - 1)) true) rfl rfl (hR.row 0 rfl) BI1.out BF1.out (one_both z z B2 (q - 1) (c - 1) true) ?_)
  intro w5 hr hg hz
  clear hz
  rw [splice_all BE1.out] at hr
  have hR2 := hR.setRow 0 rfl hr hg
  clear hr hg hR
  go_wp2_with fail
  refine wpMix_next' (fun _ => hR2.sub (List.nil_sublist _)) ?_
  unfold wpMix
  go_wp2
  exact bodyPost_ret (v := .agg (bothC z z (.slice B2 (q - 1) (c - 1)) true).toArray) (results_cell_row rfl _ _ w1.heap.size _ _ _ _ rfl (hR2.row 0 rfl) Try.underlying50 rfl BI1.out) rfl ⟨rfl, hR2.grown⟩

set_option maxRecDepth 100000 in
set_option maxHeartbeats 8000000 in
theorem rgrow_left_ok (w : World) (old x y : List UInt8) (m n h q c : Nat) (A : Option Addr) (whole : Bool) (HO : Hid (old.length = 32)) (HX : Hid (x.length = 32)) (HY : Hid (y.length = 32)) (hmn : (m : Int) < (n : Int)) (n2 : (2 : Int) ≤ (n : Int)) (n3 : (n : Int) ≤ 9223372036854775807) (m1 : (1 : Int) ≤ (m : Int)) (h0 : (0 : Int) ≤ (h : Int)) (hn : (h : Int) ≤ (n : Int)) (hm : (m : Int) ≤ (h : Int)) (hm' : m ≤ h)
    (b off k e : Nat) (z X Y : List UInt8) (B2 : Option Addr) (HZ : Hid (z.length = 32)) (HXX : Hid (X.length = 32)) (HYY : Hid (Y.length = 32)) (hk : (0 : Int) < (k : Int)) (hk' : 0 < k) (HAT : Hid (∀ j u, (c8 z)[j]? = some u → w.cell? ((⟨b, off, none⟩ : Addr).add j) = some u))
    (hfr : ∀ W, (Instr.slice 22 (.slice (some ⟨b, off, none⟩) k e) (some (.int .i64 1)) none none).run Try.prog W = .ok (.slice B2 (k - 1) (e - 1)) W)
    (cn : ∀ W, Calls Try.prog 41 #[.agg (c8 y).toArray, .agg (c8 z).toArray] W fun e w' => e = .returned (.agg (c8 Y).toArray) ∧ W.grownBy w' none)
    (cs : ∀ W, Calls Try.prog 47 #[.int .i64 (n : Int)] W fun e w' => e = .returned (.int .i64 (h : Int)) ∧ w' = W)
    (ci : ∀ W, w.grownBy W none → Calls Try.prog 28 #[.agg (c8 old).toArray, .int .i64 (m : Int), .int .i64 (h : Int), .bool whole, .slice A q c] W fun e2 w' => e2 = .returned (.agg (bothC x y (.slice (some ⟨b, off, none⟩) k e) true).toArray) ∧ W.grownBy w' none) :
    Calls Try.prog 28 #[.agg (c8 old).toArray, .int .i64 (m : Int), .int .i64 (n : Int), .bool whole, .slice A q c] w fun e' w' => e' = .returned (.agg (bothC x Y (.slice B2 (k - 1) (e - 1)) true).toArray) ∧ w.grownBy w' none := by
  have Iold := Lib.hid (info_a32 old HO.out)
  have Fold := Lib.hid (show 0 + (c8 old).length ≤ zd.length by rw [c8_length, HO.out]; decide)
  have Eold := Lib.hid (show (c8 old).length = zd.length by rw [c8_length, HO.out]; decide)
  have Ix := Lib.hid (info_a32 x HX.out)
  have Fx := Lib.hid (show 0 + (c8 x).length ≤ zd.length by rw [c8_length, HX.out]; decide)
  have Ex := Lib.hid (show (c8 x).length = zd.length by rw [c8_length, HX.out]; decide)
  have Iy := Lib.hid (info_a32 y HY.out)
  have Fy := Lib.hid (show 0 + (c8 y).length ≤ zd.length by rw [c8_length, HY.out]; decide)
  have Ey := Lib.hid (show (c8 y).length = zd.length by rw [c8_length, HY.out]; decide)
  have BIN := Lib.hid (info_both bothZ rfl)
  have BFN := Lib.hid (show 0 + bothZ.length ≤ bothZ.length by decide)
  have lx : (bothC x y (.slice (some ⟨b, off, none⟩) k e) true).length = 66 := bothC_length _ _ _ _ HX.out HY.out
  have BBx := Lib.hid (built_both x y (.slice (some ⟨b, off, none⟩) k e) true HX.out HY.out rfl)
  have BIx := Lib.hid (info_both _ lx)
  have BFx := Lib.hid (show 0 + (bothC x y (.slice (some ⟨b, off, none⟩) k e) true).length ≤ bothZ.length by rw [lx]; decide)
  have BEx := Lib.hid (show (bothC x y (.slice (some ⟨b, off, none⟩) k e) true).length = bothZ.length by rw [lx]; decide)
  clear lx
  have Iz := Lib.hid (info_a32 z HZ.out)
  have Fz := Lib.hid (show 0 + (c8 z).length ≤ zd.length by rw [c8_length, HZ.out]; decide)
  have Ez := Lib.hid (show (c8 z).length = zd.length by rw [c8_length, HZ.out]; decide)
  have l1 : (bothC x Y (.slice B2 (k - 1) (e - 1)) true).length = 66 := bothC_length _ _ _ _ HX.out HYY.out
  have BB1 := Lib.hid (built_both x Y (.slice B2 (k - 1) (e - 1)) true HX.out HYY.out rfl)
  have BI1 := Lib.hid (info_both _ l1)
  have BF1 := Lib.hid (show 0 + (bothC x Y (.slice B2 (k - 1) (e - 1)) true).length ≤ bothZ.length by rw [l1]; decide)
  have BE1 := Lib.hid (show (bothC x Y (.slice B2 (k - 1) (e - 1)) true).length = bothZ.length by rw [l1]; decide)
  clear l1
  have k2 : decide ((k : Int) = 0) = false := by simp; omega
  have k3 : ¬ k = 0 := by omega
  have k4 : ((k : Int) == 0) = false := by simp; omega
  have t1 : decide ((m : Int) = (n : Int)) = false := by simp; omega
  have t2 : ((m : Int) == (n : Int)) = false := by simp; omega
  have t3 : ¬ m = n := by omega
  have t5 : (0 : Int) ≤ (m : Int) := by omega
  have t4 : decide ((m : Int) ≤ (h : Int)) = true := by simp; omega
  have t6 : decide (m ≤ h) = true := by simp; omega
  go_enter Try.func28, Try.ntmps28
  go_wp2_with (refine wp_box (o := ⟨some 5, _, _, _, _, _⟩) rfl 26 (.tmp 0) rfl (c8 old) rfl ?_)
  intro w1 hr hg hz
  clear hz
  have hS1 := ((Own.start w)).new hr hg
  clear hr hg
  go_wp2_with (refine wp_alloc (o := ⟨some 10, _, _, _, _, _⟩) rfl 50 rfl _ alloc_both ?_)
  intro w2 hr hg hz
  clear hz
  have hS2 := hS1.new hr hg
  clear hr hg
  clear hS1
  go_wp2_with fail
  refine (cs _).mono ?_
  rintro e' w3 ⟨rfl, rfl⟩
  go_wp2_with (first | (refine wp_built rfl 50 _ rfl _ rfl (bothZ).toArray built_none ?_) | (refine wp_alloc (o := ⟨some 12, _, _, _, _, _⟩) rfl 50 rfl _ alloc_both ?_))
  intro w4 hr hg hz
  clear hz
  have hS4 := hS2.new hr hg
  clear hr hg hS2
  go_wp2_with (first | (refine wp_storeAgg rfl 50 (.tmp 12) (.tmp 37) rfl w3.heap.size 0 50 bothZ (bothZ) rfl rfl (hS4.row 0 rfl) BIN.out BFN.out (one_both zeros32 zeros32 none 0 0 false) ?_))
  intro w5 hr hg hz
  clear hz
  rw [splice_all rfl] at hr
  have hS5 := hS4.setRow 0 rfl hr hg
  clear hr hg hS4
  go_wp2_with (first | (refine wp_load rfl 26 (.tmp 5) rfl Try.underlying26 rfl ⟨w.heap.size, 0, none⟩ rfl (c8 old) Iold.out (row_all (hS5.row 2 rfl)) ?_))
  refine (ci _ hS5.grown).mono ?_
  rintro e' w6 ⟨rfl, hg⟩
  have hS6 := hS5.call hg
  clear hg hS5 ci
  go_wp2_with (first | (refine wp_storeAgg rfl 50 (.tmp 12) (.tmp 46) rfl w3.heap.size 0 50 bothZ (bothC x y (.slice (some ⟨b, off, none⟩) k e) true) rfl rfl (hS6.row 0 rfl) BIx.out BFx.out (one_both x y (some ⟨b, off, none⟩) k e true) ?_))
  intro w7 hr hg hz
  clear hz
  rw [splice_all BEx.out] at hr
  have hS7 := hS6.setRow 0 rfl hr hg
  clear hr hg hS6
  go_wp2_with (first | (refine wp_cell rfl 4 (.tmp 56) rfl Try.underlying4 rfl ⟨w3.heap.size, 65, none⟩ rfl _ (both_ok (hS7.row 0 rfl) HX.out HY.out) ?_) | (refine wp_cell rfl 22 (.tmp 60) rfl Try.underlying22 rfl ⟨w3.heap.size, 64, none⟩ rfl _ (both_rest (hS7.row 0 rfl) HX.out HY.out) ?_) | (refine wp_cell rfl 22 (.tmp 66) rfl Try.underlying22 rfl ⟨w3.heap.size, 64, none⟩ rfl _ (both_rest (hS7.row 0 rfl) HX.out HY.out) ?_) | (refine wp_load rfl 26 (.tmp 68) rfl Try.underlying26 rfl ⟨b, off, none⟩ rfl (c8 z) Iz.out (fun j u hu => hS7.cell (HAT.out j u hu)) ?_) | (refine wp_alloc (o := ⟨some 13, _, _, _, _, _⟩) rfl 26 rfl _ alloc_d32 ?_))
  intro w8 hr hg hz
  clear hz
  have hS8 := hS7.new hr hg
  clear hr hg hS7
  go_wp2_with (refine wp_storeAgg rfl 26 (.tmp 13) (.tmp 69) rfl w7.heap.size 0 26 zd (c8 z) rfl rfl (hS8.row 0 rfl) Iz.out Fz.out (one8 _) ?_)
  intro w9 hr hg hz
  clear hz
  rw [splice_all Ez.out] at hr
  have hS9 := hS8.setRow 0 rfl hr hg
  clear hr hg hS8
  go_wp2_with fail
  have hR := hS9.drew
  clear hS9
  refine wp_region_mixC (fun W => Own w W [rowE w7.heap.size 26 (c8 z), rowE w3.heap.size 50 (bothC x y (.slice (some ⟨b, off, none⟩) k e) true)]) (fun _ => true) [(0, true), (1, true), (2, true), (3, true), (4, true), (6, true), (7, true), (8, true), (5, false), (9, true), (10, false)] (by kernel_rfl) (by kernel_rfl) (hR.sub (List.Sublist.cons_cons _ (List.Sublist.cons_cons _ (List.nil_sublist _)))) ?_
  iterate 1 (refine wpMix_step rfl (fun K hK => ?_); go_simp; (try go_bits); with_reducible refine hK _ ?_; clear hK K)
  refine wpMix_pureW (.agg (c8 x).toArray) rfl rfl (fun W hW => run_load_op 26 (.tmp 73) rfl Try.underlying26 rfl ⟨w3.heap.size, 0, none⟩ rfl _ Ix.out (both_old (hW.row 1 rfl))) ?_
  iterate 1 (refine wpMix_step rfl (fun K hK => ?_); go_simp; (try go_bits); with_reducible refine hK _ ?_; clear hK K)
  refine wpMix_pureW (.agg (c8 y).toArray) rfl rfl (fun W hW => run_load_op 26 (.tmp 75) rfl Try.underlying26 rfl ⟨w3.heap.size, 32, none⟩ rfl _ Iy.out (both_new (hW.row 1 rfl) HX.out)) ?_
  refine wpMix_pureW (.agg (c8 z).toArray) rfl rfl (fun W hW => run_load_op 26 (.tmp 13) rfl Try.underlying26 rfl ⟨w7.heap.size, 0, none⟩ rfl _ Iz.out (row_all (hW.row 0 rfl))) ?_
  iterate 1 (refine wpMix_step rfl (fun K hK => ?_); go_simp; (try go_bits); with_reducible refine hK _ ?_; clear hK K)
  refine wpMix_pureW _ rfl rfl (fun W hW => run_load_cell 22 (.tmp 79) rfl Try.underlying22 rfl ⟨w3.heap.size, 64, none⟩ rfl _ (both_rest (hW.row 1 rfl) HX.out HY.out)) ?_
  iterate 1 (refine wpMix_step rfl (fun K hK => ?_); go_simp; (try go_bits); with_reducible refine hK _ ?_; clear hK K)
  refine wpMix_loudW _ rfl rfl ?_
  go_wp2_with fail
  refine (cn _).mono ?_
  rintro e wB ⟨rfl, hg⟩
  have hR1 := hR.call hg
  clear hg hR
  go_wp2_with fail
  refine wpMix_next' (fun _ => hR1.sub (List.Sublist.cons_cons _ (List.Sublist.cons_cons _ (List.nil_sublist _)))) ?_
  refine wpMix_pureW (.agg (bothC x Y (.slice B2 (k - 1) (e - 1)) true).toArray) rfl rfl (fun W hW => run_build_op 50 #[(0, .tmp 74), (1, .tmp 78), (2, .tmp 81), (3, .const (.bool true))] rfl _ rfl _ BB1.out) ?_
  refine wpMix_loudW _ rfl rfl ?_
  go_wp2_with (refine wp_storeAgg rfl 50 (.tmp 10) (.tmp 82) rfl w1.heap.size 0 50 bothZ (bothC x Y (.slice B2 (k - 1) (e - 1)) true) rfl rfl (hR1.row 2 rfl) BI1.out BF1.out (one_both x Y B2 (k - 1) (e - 1) true) ?_)
  intro wC hr hg hz
  clear hz
  rw [splice_all BE1.out] at hr
  have hR2 := hR1.setRow 2 rfl hr hg
  clear hr hg hR1
  go_wp2_with fail
  refine wpMix_next' (fun _ => hR2.sub (List.Sublist.cons_cons _ (List.Sublist.cons_cons _ (List.nil_sublist _)))) ?_
  unfold wpMix
  go_wp2
  exact bodyPost_ret (v := .agg (bothC x Y (.slice B2 (k - 1) (e - 1)) true).toArray) (results_cell_row rfl _ _ w1.heap.size _ _ _ _ rfl (hR2.row 2 rfl) Try.underlying50 rfl BI1.out) rfl ⟨rfl, hR2.grown⟩

set_option maxRecDepth 100000 in
set_option maxHeartbeats 8000000 in
theorem rgrow_left_empty (w : World) (old x y : List UInt8) (m n h q c : Nat) (A : Option Addr) (whole : Bool) (HO : Hid (old.length = 32)) (HX : Hid (x.length = 32)) (HY : Hid (y.length = 32)) (hmn : (m : Int) < (n : Int)) (n2 : (2 : Int) ≤ (n : Int)) (n3 : (n : Int) ≤ 9223372036854775807) (m1 : (1 : Int) ≤ (m : Int)) (h0 : (0 : Int) ≤ (h : Int)) (hn : (h : Int) ≤ (n : Int)) (hm : (m : Int) ≤ (h : Int)) (hm' : m ≤ h)
    (BB : Option Addr) (e : Nat)
    (cs : ∀ W, Calls Try.prog 47 #[.int .i64 (n : Int)] W fun e w' => e = .returned (.int .i64 (h : Int)) ∧ w' = W)
    (ci : ∀ W, w.grownBy W none → Calls Try.prog 28 #[.agg (c8 old).toArray, .int .i64 (m : Int), .int .i64 (h : Int), .bool whole, .slice A q c] W fun e2 w' => e2 = .returned (.agg (bothC x y (.slice BB 0 e) true).toArray) ∧ W.grownBy w' none) :
    Calls Try.prog 28 #[.agg (c8 old).toArray, .int .i64 (m : Int), .int .i64 (n : Int), .bool whole, .slice A q c] w fun e' w' => e' = .returned (.agg (bothZ).toArray) ∧ w.grownBy w' none := by
  have Iold := Lib.hid (info_a32 old HO.out)
  have Fold := Lib.hid (show 0 + (c8 old).length ≤ zd.length by rw [c8_length, HO.out]; decide)
  have Eold := Lib.hid (show (c8 old).length = zd.length by rw [c8_length, HO.out]; decide)
  have Ix := Lib.hid (info_a32 x HX.out)
  have Fx := Lib.hid (show 0 + (c8 x).length ≤ zd.length by rw [c8_length, HX.out]; decide)
  have Ex := Lib.hid (show (c8 x).length = zd.length by rw [c8_length, HX.out]; decide)
  have Iy := Lib.hid (info_a32 y HY.out)
  have Fy := Lib.hid (show 0 + (c8 y).length ≤ zd.length by rw [c8_length, HY.out]; decide)
  have Ey := Lib.hid (show (c8 y).length = zd.length by rw [c8_length, HY.out]; decide)
  have BIN := Lib.hid (info_both bothZ rfl)
  have BFN := Lib.hid (show 0 + bothZ.length ≤ bothZ.length by decide)
  have lx : (bothC x y (.slice BB 0 e) true).length = 66 := bothC_length _ _ _ _ HX.out HY.out
  have BBx := Lib.hid (built_both x y (.slice BB 0 e) true HX.out HY.out rfl)
  have BIx := Lib.hid (info_both _ lx)
  have BFx := Lib.hid (show 0 + (bothC x y (.slice BB 0 e) true).length ≤ bothZ.length by rw [lx]; decide)
  have BEx := Lib.hid (show (bothC x y (.slice BB 0 e) true).length = bothZ.length by rw [lx]; decide)
  clear lx
  have t1 : decide ((m : Int) = (n : Int)) = false := by simp; omega
  have t2 : ((m : Int) == (n : Int)) = false := by simp; omega
  have t3 : ¬ m = n := by omega
  have t5 : (0 : Int) ≤ (m : Int) := by omega
  have t4 : decide ((m : Int) ≤ (h : Int)) = true := by simp; omega
  have t6 : decide (m ≤ h) = true := by simp; omega
  go_enter Try.func28, Try.ntmps28
  go_wp2_with (refine wp_box (o := ⟨some 5, _, _, _, _, _⟩) rfl 26 (.tmp 0) rfl (c8 old) rfl ?_)
  intro w1 hr hg hz
  clear hz
  have hS1 := ((Own.start w)).new hr hg
  clear hr hg
  go_wp2_with (refine wp_alloc (o := ⟨some 10, _, _, _, _, _⟩) rfl 50 rfl _ alloc_both ?_)
  intro w2 hr hg hz
  clear hz
  have hS2 := hS1.new hr hg
  clear hr hg
  clear hS1
  go_wp2_with fail
  refine (cs _).mono ?_
  rintro e' w3 ⟨rfl, rfl⟩
  go_wp2_with (first | (refine wp_built rfl 50 _ rfl _ rfl (bothZ).toArray built_none ?_) | (refine wp_alloc (o := ⟨some 12, _, _, _, _, _⟩) rfl 50 rfl _ alloc_both ?_))
  intro w4 hr hg hz
  clear hz
  have hS4 := hS2.new hr hg
  clear hr hg hS2
  go_wp2_with (first | (refine wp_storeAgg rfl 50 (.tmp 12) (.tmp 37) rfl w3.heap.size 0 50 bothZ (bothZ) rfl rfl (hS4.row 0 rfl) BIN.out BFN.out (one_both zeros32 zeros32 none 0 0 false) ?_))
  intro w5 hr hg hz
  clear hz
  rw [splice_all rfl] at hr
  have hS5 := hS4.setRow 0 rfl hr hg
  clear hr hg hS4
  go_wp2_with (first | (refine wp_load rfl 26 (.tmp 5) rfl Try.underlying26 rfl ⟨w.heap.size, 0, none⟩ rfl (c8 old) Iold.out (row_all (hS5.row 2 rfl)) ?_))
  refine (ci _ hS5.grown).mono ?_
  rintro e' w6 ⟨rfl, hg⟩
  have hS6 := hS5.call hg
  clear hg hS5 ci
  go_wp2_with (first | (refine wp_storeAgg rfl 50 (.tmp 12) (.tmp 46) rfl w3.heap.size 0 50 bothZ (bothC x y (.slice BB 0 e) true) rfl rfl (hS6.row 0 rfl) BIx.out BFx.out (one_both x y BB 0 e true) ?_))
  intro w7 hr hg hz
  clear hz
  rw [splice_all BEx.out] at hr
  have hS7 := hS6.setRow 0 rfl hr hg
  clear hr hg hS6
  go_wp2_with (first | (refine wp_cell rfl 4 (.tmp 56) rfl Try.underlying4 rfl ⟨w3.heap.size, 65, none⟩ rfl _ (both_ok (hS7.row 0 rfl) HX.out HY.out) ?_) | (refine wp_cell rfl 22 (.tmp 60) rfl Try.underlying22 rfl ⟨w3.heap.size, 64, none⟩ rfl _ (both_rest (hS7.row 0 rfl) HX.out HY.out) ?_) | (refine wp_built rfl 50 _ rfl _ rfl (bothZ).toArray built_none ?_) | (refine wp_storeAgg rfl 50 (.tmp 10) (.tmp 65) rfl w1.heap.size 0 50 bothZ (bothZ) rfl rfl (hS7.row 1 rfl) BIN.out BFN.out (one_both zeros32 zeros32 none 0 0 false) ?_))
  intro w8 hr hg hz
  clear hz
  rw [splice_all rfl] at hr
  have hS8 := hS7.setRow 1 rfl hr hg
  clear hr hg hS7
  go_wp2
  exact bodyPost_ret (v := .agg (bothZ).toArray) (results_cell_row rfl _ _ w1.heap.size _ _ _ _ rfl (hS8.row 1 rfl) Try.underlying50 rfl BIN.out) rfl ⟨rfl, hS8.grown⟩

set_option maxRecDepth 100000 in
set_option maxHeartbeats 8000000 in
theorem rgrow_left_no (w : World) (old x y : List UInt8) (m n h q c : Nat) (A : Option Addr) (whole : Bool) (HO : Hid (old.length = 32)) (HX : Hid (x.length = 32)) (HY : Hid (y.length = 32)) (hmn : (m : Int) < (n : Int)) (n2 : (2 : Int) ≤ (n : Int)) (n3 : (n : Int) ≤ 9223372036854775807) (m1 : (1 : Int) ≤ (m : Int)) (h0 : (0 : Int) ≤ (h : Int)) (hn : (h : Int) ≤ (n : Int)) (hm : (m : Int) ≤ (h : Int)) (hm' : m ≤ h)
    
    (cs : ∀ W, Calls Try.prog 47 #[.int .i64 (n : Int)] W fun e w' => e = .returned (.int .i64 (h : Int)) ∧ w' = W)
    (ci : ∀ W, w.grownBy W none → Calls Try.prog 28 #[.agg (c8 old).toArray, .int .i64 (m : Int), .int .i64 (h : Int), .bool whole, .slice A q c] W fun e2 w' => e2 = .returned (.agg (bothC x y (.slice none 0 0) false).toArray) ∧ W.grownBy w' none) :
    Calls Try.prog 28 #[.agg (c8 old).toArray, .int .i64 (m : Int), .int .i64 (n : Int), .bool whole, .slice A q c] w fun e' w' => e' = .returned (.agg (bothZ).toArray) ∧ w.grownBy w' none := by
  have Iold := Lib.hid (info_a32 old HO.out)
  have Fold := Lib.hid (show 0 + (c8 old).length ≤ zd.length by rw [c8_length, HO.out]; decide)
  have Eold := Lib.hid (show (c8 old).length = zd.length by rw [c8_length, HO.out]; decide)
  have Ix := Lib.hid (info_a32 x HX.out)
  have Fx := Lib.hid (show 0 + (c8 x).length ≤ zd.length by rw [c8_length, HX.out]; decide)
  have Ex := Lib.hid (show (c8 x).length = zd.length by rw [c8_length, HX.out]; decide)
  have Iy := Lib.hid (info_a32 y HY.out)
  have Fy := Lib.hid (show 0 + (c8 y).length ≤ zd.length by rw [c8_length, HY.out]; decide)
  have Ey := Lib.hid (show (c8 y).length = zd.length by rw [c8_length, HY.out]; decide)
  have BIN := Lib.hid (info_both bothZ rfl)
  have BFN := Lib.hid (show 0 + bothZ.length ≤ bothZ.length by decide)
  have lx : (bothC x y (.slice none 0 0) false).length = 66 := bothC_length _ _ _ _ HX.out HY.out
  have BBx := Lib.hid (built_both x y (.slice none 0 0) false HX.out HY.out rfl)
  have BIx := Lib.hid (info_both _ lx)
  have BFx := Lib.hid (show 0 + (bothC x y (.slice none 0 0) false).length ≤ bothZ.length by rw [lx]; decide)
  have BEx := Lib.hid (show (bothC x y (.slice none 0 0) false).length = bothZ.length by rw [lx]; decide)
  clear lx
  have t1 : decide ((m : Int) = (n : Int)) = false := by simp; omega
  have t2 : ((m : Int) == (n : Int)) = false := by simp; omega
  have t3 : ¬ m = n := by omega
  have t5 : (0 : Int) ≤ (m : Int) := by omega
  have t4 : decide ((m : Int) ≤ (h : Int)) = true := by simp; omega
  have t6 : decide (m ≤ h) = true := by simp; omega
  go_enter Try.func28, Try.ntmps28
  go_wp2_with (refine wp_box (o := ⟨some 5, _, _, _, _, _⟩) rfl 26 (.tmp 0) rfl (c8 old) rfl ?_)
  intro w1 hr hg hz
  clear hz
  have hS1 := ((Own.start w)).new hr hg
  clear hr hg
  go_wp2_with (refine wp_alloc (o := ⟨some 10, _, _, _, _, _⟩) rfl 50 rfl _ alloc_both ?_)
  intro w2 hr hg hz
  clear hz
  have hS2 := hS1.new hr hg
  clear hr hg
  clear hS1
  go_wp2_with fail
  refine (cs _).mono ?_
  rintro e' w3 ⟨rfl, rfl⟩
  go_wp2_with (first | (refine wp_built rfl 50 _ rfl _ rfl (bothZ).toArray built_none ?_) | (refine wp_alloc (o := ⟨some 12, _, _, _, _, _⟩) rfl 50 rfl _ alloc_both ?_))
  intro w4 hr hg hz
  clear hz
  have hS4 := hS2.new hr hg
  clear hr hg hS2
  go_wp2_with (first | (refine wp_storeAgg rfl 50 (.tmp 12) (.tmp 37) rfl w3.heap.size 0 50 bothZ (bothZ) rfl rfl (hS4.row 0 rfl) BIN.out BFN.out (one_both zeros32 zeros32 none 0 0 false) ?_))
  intro w5 hr hg hz
  clear hz
  rw [splice_all rfl] at hr
  have hS5 := hS4.setRow 0 rfl hr hg
  clear hr hg hS4
  go_wp2_with (first | (refine wp_load rfl 26 (.tmp 5) rfl Try.underlying26 rfl ⟨w.heap.size, 0, none⟩ rfl (c8 old) Iold.out (row_all (hS5.row 2 rfl)) ?_))
  refine (ci _ hS5.grown).mono ?_
  rintro e' w6 ⟨rfl, hg⟩
  have hS6 := hS5.call hg
  clear hg hS5 ci
  go_wp2_with (first | (refine wp_storeAgg rfl 50 (.tmp 12) (.tmp 46) rfl w3.heap.size 0 50 bothZ (bothC x y (.slice none 0 0) false) rfl rfl (hS6.row 0 rfl) BIx.out BFx.out (one_both x y none 0 0 false) ?_))
  intro w7 hr hg hz
  clear hz
  rw [splice_all BEx.out] at hr
  have hS7 := hS6.setRow 0 rfl hr hg
  clear hr hg hS6
  go_wp2_with (first | (refine wp_cell rfl 4 (.tmp 56) rfl Try.underlying4 rfl ⟨w3.heap.size, 65, none⟩ rfl _ (both_ok (hS7.row 0 rfl) HX.out HY.out) ?_) | (refine wp_built rfl 50 _ rfl _ rfl (bothZ).toArray built_none ?_) | (refine wp_storeAgg rfl 50 (.tmp 10) (.tmp 65) rfl w1.heap.size 0 50 bothZ (bothZ) rfl rfl (hS7.row 1 rfl) BIN.out BFN.out (one_both zeros32 zeros32 none 0 0 false) ?_))
  intro w8 hr hg hz
  clear hz
  rw [splice_all rfl] at hr
  have hS8 := hS7.setRow 1 rfl hr hg
  clear hr hg hS7
  go_wp2
  exact bodyPost_ret (v := .agg (bothZ).toArray) (results_cell_row rfl _ _ w1.heap.size _ _ _ _ rfl (hS8.row 1 rfl) Try.underlying50 rfl BIN.out) rfl ⟨rfl, hS8.grown⟩

set_option maxRecDepth 100000 in
set_option maxHeartbeats 8000000 in
theorem rgrow_right_ok (w : World) (old x y : List UInt8) (m n h q c : Nat) (A : Option Addr) (whole : Bool) (HO : Hid (old.length = 32)) (HX : Hid (x.length = 32)) (HY : Hid (y.length = 32)) (hmn : (m : Int) < (n : Int)) (n2 : (2 : Int) ≤ (n : Int)) (n3 : (n : Int) ≤ 9223372036854775807) (m1 : (1 : Int) ≤ (m : Int)) (h0 : (0 : Int) ≤ (h : Int)) (hn : (h : Int) ≤ (n : Int)) (hm : (h : Int) < (m : Int)) (hm' : ¬ m ≤ h)
    (b off k e : Nat) (z X Y : List UInt8) (B2 : Option Addr) (HZ : Hid (z.length = 32)) (HXX : Hid (X.length = 32)) (HYY : Hid (Y.length = 32)) (hk : (0 : Int) < (k : Int)) (hk' : 0 < k) (HAT : Hid (∀ j u, (c8 z)[j]? = some u → w.cell? ((⟨b, off, none⟩ : Addr).add j) = some u))
    (hfr : ∀ W, (Instr.slice 22 (.slice (some ⟨b, off, none⟩) k e) (some (.int .i64 1)) none none).run Try.prog W = .ok (.slice B2 (k - 1) (e - 1)) W)
    (cn0 : ∀ W, Calls Try.prog 41 #[.agg (c8 z).toArray, .agg (c8 x).toArray] W fun e w' => e = .returned (.agg (c8 X).toArray) ∧ W.grownBy w' none) (cn : ∀ W, Calls Try.prog 41 #[.agg (c8 z).toArray, .agg (c8 y).toArray] W fun e w' => e = .returned (.agg (c8 Y).toArray) ∧ W.grownBy w' none)
    (cs : ∀ W, Calls Try.prog 47 #[.int .i64 (n : Int)] W fun e w' => e = .returned (.int .i64 (h : Int)) ∧ w' = W)
    (ci : ∀ W, w.grownBy W none → Calls Try.prog 28 #[.agg (c8 old).toArray, .int .i64 ((m : Int) - (h : Int)), .int .i64 ((n : Int) - (h : Int)), .bool false, .slice A q c] W fun e2 w' => e2 = .returned (.agg (bothC x y (.slice (some ⟨b, off, none⟩) k e) true).toArray) ∧ W.grownBy w' none) :
    Calls Try.prog 28 #[.agg (c8 old).toArray, .int .i64 (m : Int), .int .i64 (n : Int), .bool whole, .slice A q c] w fun e' w' => e' = .returned (.agg (bothC X Y (.slice B2 (k - 1) (e - 1)) true).toArray) ∧ w.grownBy w' none := by
  have Iold := Lib.hid (info_a32 old HO.out)
  have Fold := Lib.hid (show 0 + (c8 old).length ≤ zd.length by rw [c8_length, HO.out]; decide)
  have Eold := Lib.hid (show (c8 old).length = zd.length by rw [c8_length, HO.out]; decide)
  have Ix := Lib.hid (info_a32 x HX.out)
  have Fx := Lib.hid (show 0 + (c8 x).length ≤ zd.length by rw [c8_length, HX.out]; decide)
  have Ex := Lib.hid (show (c8 x).length = zd.length by rw [c8_length, HX.out]; decide)
  have Iy := Lib.hid (info_a32 y HY.out)
  have Fy := Lib.hid (show 0 + (c8 y).length ≤ zd.length by rw [c8_length, HY.out]; decide)
  have Ey := Lib.hid (show (c8 y).length = zd.length by rw [c8_length, HY.out]; decide)
  have BIN := Lib.hid (info_both bothZ rfl)
  have BFN := Lib.hid (show 0 + bothZ.length ≤ bothZ.length by decide)
  have lx : (bothC x y (.slice (some ⟨b, off, none⟩) k e) true).length = 66 := bothC_length _ _ _ _ HX.out HY.out
  have BBx := Lib.hid (built_both x y (.slice (some ⟨b, off, none⟩) k e) true HX.out HY.out rfl)
  have BIx := Lib.hid (info_both _ lx)
  have BFx := Lib.hid (show 0 + (bothC x y (.slice (some ⟨b, off, none⟩) k e) true).length ≤ bothZ.length by rw [lx]; decide)
  have BEx := Lib.hid (show (bothC x y (.slice (some ⟨b, off, none⟩) k e) true).length = bothZ.length by rw [lx]; decide)
  clear lx
  have Iz := Lib.hid (info_a32 z HZ.out)
  have Fz := Lib.hid (show 0 + (c8 z).length ≤ zd.length by rw [c8_length, HZ.out]; decide)
  have Ez := Lib.hid (show (c8 z).length = zd.length by rw [c8_length, HZ.out]; decide)
  have l1 : (bothC X Y (.slice B2 (k - 1) (e - 1)) true).length = 66 := bothC_length _ _ _ _ HXX.out HYY.out
  have BB1 := Lib.hid (built_both X Y (.slice B2 (k - 1) (e - 1)) true HXX.out HYY.out rfl)
  have BI1 := Lib.hid (info_both _ l1)
  have BF1 := Lib.hid (show 0 + (bothC X Y (.slice B2 (k - 1) (e - 1)) true).length ≤ bothZ.length by rw [l1]; decide)
  have BE1 := Lib.hid (show (bothC X Y (.slice B2 (k - 1) (e - 1)) true).length = bothZ.length by rw [l1]; decide)
  clear l1
  have k2 : decide ((k : Int) = 0) = false := by simp; omega
  have k3 : ¬ k = 0 := by omega
  have k4 : ((k : Int) == 0) = false := by simp; omega
  have t1 : decide ((m : Int) = (n : Int)) = false := by simp; omega
  have t2 : ((m : Int) == (n : Int)) = false := by simp; omega
  have t3 : ¬ m = n := by omega
  have t5 : (0 : Int) ≤ (m : Int) := by omega
  have t4 : decide ((m : Int) ≤ (h : Int)) = false := by simp; omega
  have t6 : decide (m ≤ h) = false := by simp; omega
  go_enter Try.func28, Try.ntmps28
  go_wp2_with (refine wp_box (o := ⟨some 5, _, _, _, _, _⟩) rfl 26 (.tmp 0) rfl (c8 old) rfl ?_)
  intro w1 hr hg hz
  clear hz
  have hS1 := ((Own.start w)).new hr hg
  clear hr hg
  go_wp2_with (refine wp_alloc (o := ⟨some 10, _, _, _, _, _⟩) rfl 50 rfl _ alloc_both ?_)
  intro w2 hr hg hz
  clear hz
  have hS2 := hS1.new hr hg
  clear hr hg
  clear hS1
  go_wp2_with fail
  refine (cs _).mono ?_
  rintro e' w3 ⟨rfl, rfl⟩
  go_wp2_with (first | (refine wp_built rfl 50 _ rfl _ rfl (bothZ).toArray built_none ?_) | (refine wp_alloc (o := ⟨some 12, _, _, _, _, _⟩) rfl 50 rfl _ alloc_both ?_))
  intro w4 hr hg hz
  clear hz
  have hS4 := hS2.new hr hg
  clear hr hg hS2
  go_wp2_with (first | (refine wp_storeAgg rfl 50 (.tmp 12) (.tmp 37) rfl w3.heap.size 0 50 bothZ (bothZ) rfl rfl (hS4.row 0 rfl) BIN.out BFN.out (one_both zeros32 zeros32 none 0 0 false) ?_))
  intro w5 hr hg hz
  clear hz
  rw [splice_all rfl] at hr
  have hS5 := hS4.setRow 0 rfl hr hg
  clear hr hg hS4
  go_wp2_with (first | (refine wp_load rfl 26 (.tmp 5) rfl Try.underlying26 rfl ⟨w.heap.size, 0, none⟩ rfl (c8 old) Iold.out (row_all (hS5.row 2 rfl)) ?_))
  refine (ci _ hS5.grown).mono ?_
  rintro e' w6 ⟨rfl, hg⟩
  have hS6 := hS5.call hg
  clear hg hS5 ci
  go_wp2_with (first | (refine wp_storeAgg rfl 50 (.tmp 12) (.tmp 55) rfl w3.heap.size 0 50 bothZ (bothC x y (.slice (some ⟨b, off, none⟩) k e) true) rfl rfl (hS6.row 0 rfl) BIx.out BFx.out (one_both x y (some ⟨b, off, none⟩) k e true) ?_))
  intro w7 hr hg hz
  clear hz
  rw [splice_all BEx.out] at hr
  have hS7 := hS6.setRow 0 rfl hr hg
  clear hr hg hS6
  go_wp2_with (first | (refine wp_cell rfl 4 (.tmp 56) rfl Try.underlying4 rfl ⟨w3.heap.size, 65, none⟩ rfl _ (both_ok (hS7.row 0 rfl) HX.out HY.out) ?_) | (refine wp_cell rfl 22 (.tmp 60) rfl Try.underlying22 rfl ⟨w3.heap.size, 64, none⟩ rfl _ (both_rest (hS7.row 0 rfl) HX.out HY.out) ?_) | (refine wp_cell rfl 22 (.tmp 66) rfl Try.underlying22 rfl ⟨w3.heap.size, 64, none⟩ rfl _ (both_rest (hS7.row 0 rfl) HX.out HY.out) ?_) | (refine wp_load rfl 26 (.tmp 68) rfl Try.underlying26 rfl ⟨b, off, none⟩ rfl (c8 z) Iz.out (fun j u hu => hS7.cell (HAT.out j u hu)) ?_) | (refine wp_alloc (o := ⟨some 13, _, _, _, _, _⟩) rfl 26 rfl _ alloc_d32 ?_))
  intro w8 hr hg hz
  clear hz
  have hS8 := hS7.new hr hg
  clear hr hg hS7
  go_wp2_with (refine wp_storeAgg rfl 26 (.tmp 13) (.tmp 69) rfl w7.heap.size 0 26 zd (c8 z) rfl rfl (hS8.row 0 rfl) Iz.out Fz.out (one8 _) ?_)
  intro w9 hr hg hz
  clear hz
  rw [splice_all Ez.out] at hr
  have hS9 := hS8.setRow 0 rfl hr hg
  clear hr hg hS8
  go_wp2_with fail
  have hR := hS9.drew
  clear hS9
  refine wp_region_mixC (fun W => Own w W [rowE w7.heap.size 26 (c8 z), rowE w3.heap.size 50 (bothC x y (.slice (some ⟨b, off, none⟩) k e) true)]) (fun _ => true) [(0, true), (1, true), (2, true), (4, true), (5, true), (6, true), (8, true), (9, true), (10, true), (3, false), (7, false), (11, true), (12, false)] (by kernel_rfl) (by kernel_rfl) (hR.sub (List.Sublist.cons_cons _ (List.Sublist.cons_cons _ (List.nil_sublist _)))) ?_
  refine wpMix_pureW (.agg (c8 z).toArray) rfl rfl (fun W hW => run_load_op 26 (.tmp 13) rfl Try.underlying26 rfl ⟨w7.heap.size, 0, none⟩ rfl _ Iz.out (row_all (hW.row 0 rfl))) ?_
  iterate 1 (refine wpMix_step rfl (fun K hK => ?_); go_simp; (try go_bits); with_reducible refine hK _ ?_; clear hK K)
  refine wpMix_pureW (.agg (c8 x).toArray) rfl rfl (fun W hW => run_load_op 26 (.tmp 84) rfl Try.underlying26 rfl ⟨w3.heap.size, 0, none⟩ rfl _ Ix.out (both_old (hW.row 1 rfl))) ?_
  refine wpMix_pureW (.agg (c8 z).toArray) rfl rfl (fun W hW => run_load_op 26 (.tmp 13) rfl Try.underlying26 rfl ⟨w7.heap.size, 0, none⟩ rfl _ Iz.out (row_all (hW.row 0 rfl))) ?_
  iterate 1 (refine wpMix_step rfl (fun K hK => ?_); go_simp; (try go_bits); with_reducible refine hK _ ?_; clear hK K)
  refine wpMix_pureW (.agg (c8 y).toArray) rfl rfl (fun W hW => run_load_op 26 (.tmp 88) rfl Try.underlying26 rfl ⟨w3.heap.size, 32, none⟩ rfl _ Iy.out (both_new (hW.row 1 rfl) HX.out)) ?_
  iterate 1 (refine wpMix_step rfl (fun K hK => ?_); go_simp; (try go_bits); with_reducible refine hK _ ?_; clear hK K)
  refine wpMix_pureW _ rfl rfl (fun W hW => run_load_cell 22 (.tmp 91) rfl Try.underlying22 rfl ⟨w3.heap.size, 64, none⟩ rfl _ (both_rest (hW.row 1 rfl) HX.out HY.out)) ?_
  iterate 1 (refine wpMix_step rfl (fun K hK => ?_); go_simp; (try go_bits); with_reducible refine hK _ ?_; clear hK K)
  refine wpMix_loudW _ rfl rfl ?_
  go_wp2_with fail
  refine (cn0 _).mono ?_
  rintro e wB ⟨rfl, hg⟩
  have hR0 := hR.call hg
  clear hg hR
  go_wp2_with fail
  refine wpMix_next' (fun _ => hR0.sub (List.Sublist.cons_cons _ (List.Sublist.cons_cons _ (List.nil_sublist _)))) ?_
  refine wpMix_loudW _ rfl rfl ?_
  go_wp2_with fail
  refine (cn _).mono ?_
  rintro e wB2 ⟨rfl, hg⟩
  have hR1 := hR0.call hg
  clear hg hR0
  go_wp2_with fail
  refine wpMix_next' (fun _ => hR1.sub (List.Sublist.cons_cons _ (List.Sublist.cons_cons _ (List.nil_sublist _)))) ?_
  refine wpMix_pureW (.agg (bothC X Y (.slice B2 (k - 1) (e - 1)) true).toArray) rfl rfl (fun W hW => run_build_op 50 #[(0, .tmp 86), (1, .tmp 90), (2, .tmp 93), (3, .const (.bool true))] rfl _ rfl _ BB1.out) ?_
  refine wpMix_loudW _ rfl rfl ?_
  go_wp2_with (refine wp_storeAgg rfl 50 (.tmp 10) (.tmp 94) rfl w1.heap.size 0 50 bothZ (bothC X Y (.slice B2 (k - 1) (e - 1)) true) rfl rfl (hR1.row 2 rfl) BI1.out BF1.out (one_both X Y B2 (k - 1) (e - 1) true) ?_)
  intro wC hr hg hz
  clear hz
  rw [splice_all BE1.out] at hr
  have hR2 := hR1.setRow 2 rfl hr hg
  clear hr hg hR1
  go_wp2_with fail
  refine wpMix_next' (fun _ => hR2.sub (List.Sublist.cons_cons _ (List.Sublist.cons_cons _ (List.nil_sublist _)))) ?_
  unfold wpMix
  go_wp2
  exact bodyPost_ret (v := .agg (bothC X Y (.slice B2 (k - 1) (e - 1)) true).toArray) (results_cell_row rfl _ _ w1.heap.size _ _ _ _ rfl (hR2.row 2 rfl) Try.underlying50 rfl BI1.out) rfl ⟨rfl, hR2.grown⟩

set_option maxRecDepth 100000 in
set_option maxHeartbeats 8000000 in
theorem rgrow_right_empty (w : World) (old x y : List UInt8) (m n h q c : Nat) (A : Option Addr) (whole : Bool) (HO : Hid (old.length = 32)) (HX : Hid (x.length = 32)) (HY : Hid (y.length = 32)) (hmn : (m : Int) < (n : Int)) (n2 : (2 : Int) ≤ (n : Int)) (n3 : (n : Int) ≤ 9223372036854775807) (m1 : (1 : Int) ≤ (m : Int)) (h0 : (0 : Int) ≤ (h : Int)) (hn : (h : Int) ≤ (n : Int)) (hm : (h : Int) < (m : Int)) (hm' : ¬ m ≤ h)
    (BB : Option Addr) (e : Nat)
    (cs : ∀ W, Calls Try.prog 47 #[.int .i64 (n : Int)] W fun e w' => e = .returned (.int .i64 (h : Int)) ∧ w' = W)
    (ci : ∀ W, w.grownBy W none → Calls Try.prog 28 #[.agg (c8 old).toArray, .int .i64 ((m : Int) - (h : Int)), .int .i64 ((n : Int) - (h : Int)), .bool false, .slice A q c] W fun e2 w' => e2 = .returned (.agg (bothC x y (.slice BB 0 e) true).toArray) ∧ W.grownBy w' none) :
    Calls Try.prog 28 #[.agg (c8 old).toArray, .int .i64 (m : Int), .int .i64 (n : Int), .bool whole, .slice A q c] w fun e' w' => e' = .returned (.agg (bothZ).toArray) ∧ w.grownBy w' none := by
  have Iold := Lib.hid (info_a32 old HO.out)
  have Fold := Lib.hid (show 0 + (c8 old).length ≤ zd.length by rw [c8_length, HO.out]; decide)
  have Eold := Lib.hid (show (c8 old).length = zd.length by rw [c8_length, HO.out]; decide)
  have Ix := Lib.hid (info_a32 x HX.out)
  have Fx := Lib.hid (show 0 + (c8 x).length ≤ zd.length by rw [c8_length, HX.out]; decide)
  have Ex := Lib.hid (show (c8 x).length = zd.length by rw [c8_length, HX.out]; decide)
  have Iy := Lib.hid (info_a32 y HY.out)
  have Fy := Lib.hid (show 0 + (c8 y).length ≤ zd.length by rw [c8_length, HY.out]; decide)
  have Ey := Lib.hid (show (c8 y).length = zd.length by rw [c8_length, HY.out]; decide)
  have BIN := Lib.hid (info_both bothZ rfl)
  have BFN := Lib.hid (show 0 + bothZ.length ≤ bothZ.length by decide)
  have lx : (bothC x y (.slice BB 0 e) true).length = 66 := bothC_length _ _ _ _ HX.out HY.out
  have BBx := Lib.hid (built_both x y (.slice BB 0 e) true HX.out HY.out rfl)
  have BIx := Lib.hid (info_both _ lx)
  have BFx := Lib.hid (show 0 + (bothC x y (.slice BB 0 e) true).length ≤ bothZ.length by rw [lx]; decide)
  have BEx := Lib.hid (show (bothC x y (.slice BB 0 e) true).length = bothZ.length by rw [lx]; decide)
  clear lx
  have t1 : decide ((m : Int) = (n : Int)) = false := by simp; omega
  have t2 : ((m : Int) == (n : Int)) = false := by simp; omega
  have t3 : ¬ m = n := by omega
  have t5 : (0 : Int) ≤ (m : Int) := by omega
  have t4 : decide ((m : Int) ≤ (h : Int)) = false := by simp; omega
  have t6 : decide (m ≤ h) = false := by simp; omega
  go_enter Try.func28, Try.ntmps28
  go_wp2_with (refine wp_box (o := ⟨some 5, _, _, _, _, _⟩) rfl 26 (.tmp 0) rfl (c8 old) rfl ?_)
  intro w1 hr hg hz
  clear hz
  have hS1 := ((Own.start w)).new hr hg
  clear hr hg
  go_wp2_with (refine wp_alloc (o := ⟨some 10, _, _, _, _, _⟩) rfl 50 rfl _ alloc_both ?_)
  intro w2 hr hg hz
  clear hz
  have hS2 := hS1.new hr hg
  clear hr hg
  clear hS1
  go_wp2_with fail
  refine (cs _).mono ?_
  rintro e' w3 ⟨rfl, rfl⟩
  go_wp2_with (first | (refine wp_built rfl 50 _ rfl _ rfl (bothZ).toArray built_none ?_) | (refine wp_alloc (o := ⟨some 12, _, _, _, _, _⟩) rfl 50 rfl _ alloc_both ?_))
  intro w4 hr hg hz
  clear hz
  have hS4 := hS2.new hr hg
  clear hr hg hS2
  go_wp2_with (first | (refine wp_storeAgg rfl 50 (.tmp 12) (.tmp 37) rfl w3.heap.size 0 50 bothZ (bothZ) rfl rfl (hS4.row 0 rfl) BIN.out BFN.out (one_both zeros32 zeros32 none 0 0 false) ?_))
  intro w5 hr hg hz
  clear hz
  rw [splice_all rfl] at hr
  have hS5 := hS4.setRow 0 rfl hr hg
  clear hr hg hS4
  go_wp2_with (first | (refine wp_load rfl 26 (.tmp 5) rfl Try.underlying26 rfl ⟨w.heap.size, 0, none⟩ rfl (c8 old) Iold.out (row_all (hS5.row 2 rfl)) ?_))
  refine (ci _ hS5.grown).mono ?_
  rintro e' w6 ⟨rfl, hg⟩
  have hS6 := hS5.call hg
  clear hg hS5 ci
  go_wp2_with (first | (refine wp_storeAgg rfl 50 (.tmp 12) (.tmp 55) rfl w3.heap.size 0 50 bothZ (bothC x y (.slice BB 0 e) true) rfl rfl (hS6.row 0 rfl) BIx.out BFx.out (one_both x y BB 0 e true) ?_))
  intro w7 hr hg hz
  clear hz
  rw [splice_all BEx.out] at hr
  have hS7 := hS6.setRow 0 rfl hr hg
  clear hr hg hS6
  go_wp2_with (first | (refine wp_cell rfl 4 (.tmp 56) rfl Try.underlying4 rfl ⟨w3.heap.size, 65, none⟩ rfl _ (both_ok (hS7.row 0 rfl) HX.out HY.out) ?_) | (refine wp_cell rfl 22 (.tmp 60) rfl Try.underlying22 rfl ⟨w3.heap.size, 64, none⟩ rfl _ (both_rest (hS7.row 0 rfl) HX.out HY.out) ?_) | (refine wp_built rfl 50 _ rfl _ rfl (bothZ).toArray built_none ?_) | (refine wp_storeAgg rfl 50 (.tmp 10) (.tmp 65) rfl w1.heap.size 0 50 bothZ (bothZ) rfl rfl (hS7.row 1 rfl) BIN.out BFN.out (one_both zeros32 zeros32 none 0 0 false) ?_))
  intro w8 hr hg hz
  clear hz
  rw [splice_all rfl] at hr
  have hS8 := hS7.setRow 1 rfl hr hg
  clear hr hg hS7
  go_wp2
  exact bodyPost_ret (v := .agg (bothZ).toArray) (results_cell_row rfl _ _ w1.heap.size _ _ _ _ rfl (hS8.row 1 rfl) Try.underlying50 rfl BIN.out) rfl ⟨rfl, hS8.grown⟩

set_option maxRecDepth 100000 in
set_option maxHeartbeats 8000000 in
theorem rgrow_right_no (w : World) (old x y : List UInt8) (m n h q c : Nat) (A : Option Addr) (whole : Bool) (HO : Hid (old.length = 32)) (HX : Hid (x.length = 32)) (HY : Hid (y.length = 32)) (hmn : (m : Int) < (n : Int)) (n2 : (2 : Int) ≤ (n : Int)) (n3 : (n : Int) ≤ 9223372036854775807) (m1 : (1 : Int) ≤ (m : Int)) (h0 : (0 : Int) ≤ (h : Int)) (hn : (h : Int) ≤ (n : Int)) (hm : (h : Int) < (m : Int)) (hm' : ¬ m ≤ h)
    
    (cs : ∀ W, Calls Try.prog 47 #[.int .i64 (n : Int)] W fun e w' => e = .returned (.int .i64 (h : Int)) ∧ w' = W)
    (ci : ∀ W, w.grownBy W none → Calls Try.prog 28 #[.agg (c8 old).toArray, .int .i64 ((m : Int) - (h : Int)), .int .i64 ((n : Int) - (h : Int)), .bool false, .slice A q c] W fun e2 w' => e2 = .returned (.agg (bothC x y (.slice none 0 0) false).toArray) ∧ W.grownBy w' none) :
    Calls Try.prog 28 #[.agg (c8 old).toArray, .int .i64 (m : Int), .int .i64 (n : Int), .bool whole, .slice A q c] w fun e' w' => e' = .returned (.agg (bothZ).toArray) ∧ w.grownBy w' none := by
  have Iold := Lib.hid (info_a32 old HO.out)
  have Fold := Lib.hid (show 0 + (c8 old).length ≤ zd.length by rw [c8_length, HO.out]; decide)
  have Eold := Lib.hid (show (c8 old).length = zd.length by rw [c8_length, HO.out]; decide)
  have Ix := Lib.hid (info_a32 x HX.out)
  have Fx := Lib.hid (show 0 + (c8 x).length ≤ zd.length by rw [c8_length, HX.out]; decide)
  have Ex := Lib.hid (show (c8 x).length = zd.length by rw [c8_length, HX.out]; decide)
  have Iy := Lib.hid (info_a32 y HY.out)
  have Fy := Lib.hid (show 0 + (c8 y).length ≤ zd.length by rw [c8_length, HY.out]; decide)
  have Ey := Lib.hid (show (c8 y).length = zd.length by rw [c8_length, HY.out]; decide)
  have BIN := Lib.hid (info_both bothZ rfl)
  have BFN := Lib.hid (show 0 + bothZ.length ≤ bothZ.length by decide)
  have lx : (bothC x y (.slice none 0 0) false).length = 66 := bothC_length _ _ _ _ HX.out HY.out
  have BBx := Lib.hid (built_both x y (.slice none 0 0) false HX.out HY.out rfl)
  have BIx := Lib.hid (info_both _ lx)
  have BFx := Lib.hid (show 0 + (bothC x y (.slice none 0 0) false).length ≤ bothZ.length by rw [lx]; decide)
  have BEx := Lib.hid (show (bothC x y (.slice none 0 0) false).length = bothZ.length by rw [lx]; decide)
  clear lx
  have t1 : decide ((m : Int) = (n : Int)) = false := by simp; omega
  have t2 : ((m : Int) == (n : Int)) = false := by simp; omega
  have t3 : ¬ m = n := by omega
  have t5 : (0 : Int) ≤ (m : Int) := by omega
  have t4 : decide ((m : Int) ≤ (h : Int)) = false := by simp; omega
  have t6 : decide (m ≤ h) = false := by simp; omega
  go_enter Try.func28, Try.ntmps28
  go_wp2_with (refine wp_box (o := ⟨some 5, _, _, _, _, _⟩) rfl 26 (.tmp 0) rfl (c8 old) rfl ?_)
  intro w1 hr hg hz
  clear hz
  have hS1 := ((Own.start w)).new hr hg
  clear hr hg
  go_wp2_with (refine wp_alloc (o := ⟨some 10, _, _, _, _, _⟩) rfl 50 rfl _ alloc_both ?_)
  intro w2 hr hg hz
  clear hz
  have hS2 := hS1.new hr hg
  clear hr hg
  clear hS1
  go_wp2_with fail
  refine (cs _).mono ?_
  rintro e' w3 ⟨rfl, rfl⟩
  go_wp2_with (first | (refine wp_built rfl 50 _ rfl _ rfl (bothZ).toArray built_none ?_) | (refine wp_alloc (o := ⟨some 12, _, _, _, _, _⟩) rfl 50 rfl _ alloc_both ?_))
  intro w4 hr hg hz
  clear hz
  have hS4 := hS2.new hr hg
  clear hr hg hS2
  go_wp2_with (first | (refine wp_storeAgg rfl 50 (.tmp 12) (.tmp 37) rfl w3.heap.size 0 50 bothZ (bothZ) rfl rfl (hS4.row 0 rfl) BIN.out BFN.out (one_both zeros32 zeros32 none 0 0 false) ?_))
  intro w5 hr hg hz
  clear hz
  rw [splice_all rfl] at hr
  have hS5 := hS4.setRow 0 rfl hr hg
  clear hr hg hS4
  go_wp2_with (first | (refine wp_load rfl 26 (.tmp 5) rfl Try.underlying26 rfl ⟨w.heap.size, 0, none⟩ rfl (c8 old) Iold.out (row_all (hS5.row 2 rfl)) ?_))
  refine (ci _ hS5.grown).mono ?_
  rintro e' w6 ⟨rfl, hg⟩
  have hS6 := hS5.call hg
  clear hg hS5 ci
  go_wp2_with (first | (refine wp_storeAgg rfl 50 (.tmp 12) (.tmp 55) rfl w3.heap.size 0 50 bothZ (bothC x y (.slice none 0 0) false) rfl rfl (hS6.row 0 rfl) BIx.out BFx.out (one_both x y none 0 0 false) ?_))
  intro w7 hr hg hz
  clear hz
  rw [splice_all BEx.out] at hr
  have hS7 := hS6.setRow 0 rfl hr hg
  clear hr hg hS6
  go_wp2_with (first | (refine wp_cell rfl 4 (.tmp 56) rfl Try.underlying4 rfl ⟨w3.heap.size, 65, none⟩ rfl _ (both_ok (hS7.row 0 rfl) HX.out HY.out) ?_) | (refine wp_built rfl 50 _ rfl _ rfl (bothZ).toArray built_none ?_) | (refine wp_storeAgg rfl 50 (.tmp 10) (.tmp 65) rfl w1.heap.size 0 50 bothZ (bothZ) rfl rfl (hS7.row 1 rfl) BIN.out BFN.out (one_both zeros32 zeros32 none 0 0 false) ?_))
  intro w8 hr hg hz
  clear hz
  rw [splice_all rfl] at hr
  have hS8 := hS7.setRow 1 rfl hr hg
  clear hr hg hS7
  go_wp2
  exact bodyPost_ret (v := .agg (bothZ).toArray) (results_cell_row rfl _ _ w1.heap.size _ _ _ _ rfl (hS8.row 1 rfl) Try.underlying50 rfl BIN.out) rfl ⟨rfl, hS8.grown⟩

def RGroPost (A : Option Addr) (c : Nat) (way : Way) (o : Gro) (e : Ending) : Prop :=
  match o with
  | some (x, y, r) => e = .returned (.agg (bothC x y (.slice (slA A c (way.length - r.length)) r.length (c - (way.length - r.length))) true).toArray)
  | none => e = .returned (.agg bothZ.toArray)
theorem rgrow_any : ∀ (M m n : Nat) (old : List UInt8) (whole : Bool) (A : Option Addr) (c : Nat) (way : Way) (w0 w : World), n ≤ M → 1 ≤ m → m ≤ n → n ≤ 9223372036854775807 → old.length = 32 → w0.grownBy w none → Rows32 w0 A c way → c ≤ 9223372036854775807 →
    Calls Try.prog 28 #[.agg (c8 old).toArray, .int .i64 (m : Int), .int .i64 (n : Int), .bool whole, .slice A way.length c] w fun e w' => RGroPost A c way (growO old m n whole way) e ∧ w.grownBy w' none := by
  intro M
  induction M with
  | zero => intro m n old whole A c way w0 w hM h1 h2; omega
  | succ M ih =>
    intro m n old whole A c way w0 w hM h1 h2 hn ho hg hw hc
    by_cases hb : n < 2 ∨ m = n
    · rw [growO_base hb]
      have hmn : m = n := by omega
      cases whole with
      | true =>
        refine (rgrow_whole w old m n way.length c A (Lib.hid ho) hmn).mono fun e w' h => ⟨?_, h.2⟩
        show e = _
        rw [Nat.sub_self]
        exact h.1
      | false =>
        match way, hw with
        | [], _ => exact rgrow_none w old m n c A (Lib.hid ho) hmn
        | z :: r, hw =>
          have hw' := hw.keep hg
          obtain ⟨b, off, hA, hat⟩ := hw'.at_ 0 (by simp)
          have hzl : z.length = 32 := hw.all z (by simp)
          have hat' : ∀ q u, (c8 z)[q]? = some u → w.cell? ((⟨b, off, none⟩ : Addr).add q) = some u := by simpa using hat
          have hfr' : ∀ W, (Instr.slice 22 (.slice (some ⟨b, off, none⟩) (z :: r).length c) (some (.int .i64 1)) none none).run Try.prog W = .ok (.slice (slA A c 1) ((z :: r).length - 1) (c - 1)) W := fun W => by
            have := run_from32 Try.underlying22 size_a A (z :: r).length c 1 (by simp) hw.le W
            rw [hA] at this ⊢
            exact this
          rw [hA]
          refine (rgrow_take w old z m n (z :: r).length c b off _ (Lib.hid ho) (Lib.hid hzl) hmn (by simp) (by simp) (Lib.hid hat') hfr').mono fun e w' h => ⟨?_, h.2⟩
          show e = _
          rw [show (z :: r).length - r.length = 1 by simp, h.1, hA]
          rfl
    · have h22 : 2 ≤ n := by omega
      have hlt := half_lt h22
      have hp := half_pos n
      have hsp := fun W => rhalf_any n W h22 hn
      have hz : zeros32.length = 32 := by simp [zeros32]
      by_cases hm : m ≤ half n
      · rw [growO_left hb hm]
        have hin := fun W (hW : w.grownBy W none) => ih m (half n) old whole A c way w0 W (by omega) h1 hm (by omega) ho (grownBy_trans hg hW) hw hc
        have hlen := growO_len (half n) m (half n) old whole way (Nat.le_refl _) ho hw.all
        match hoo : growO old m (half n) whole way with
        | none =>
          rw [hoo] at hin
          exact rgrow_left_no w old zeros32 zeros32 m n (half n) way.length c A whole (Lib.hid ho) (Lib.hid hz) (Lib.hid hz) (by omega) (by omega) (by omega) (by omega) (by omega) (by omega) (by omega) hm hsp hin
        | some (x, y, []) =>
          rw [hoo] at hin
          obtain ⟨hx, hy, k, hk, hr⟩ := hlen x y [] hoo
          exact rgrow_left_empty w old x y m n (half n) way.length c A whole (Lib.hid ho) (Lib.hid hx) (Lib.hid hy) (by omega) (by omega) (by omega) (by omega) (by omega) (by omega) (by omega) hm _ _ hsp hin
        | some (x, y, z :: r) =>
          rw [hoo] at hin
          obtain ⟨hx, hy, k, hk, hr⟩ := hlen x y (z :: r) hoo
          obtain ⟨j, hj⟩ : ∃ j, j = way.length - (z :: r).length := ⟨_, rfl⟩
          have hlr : (z :: r).length = way.length - k := by rw [hr]; simp
          have hjk : j = k := by omega
          have hrows := (slA_rows hw j (by omega)).keep hg
          rw [hjk, ← hr] at hrows
          rw [← hjk] at hrows
          obtain ⟨b, off, hA, hat⟩ := hrows.at_ 0 (by simp)
          have hzl : z.length = 32 := hrows.all z (by simp)
          have hat' : ∀ q u, (c8 z)[q]? = some u → w.cell? ((⟨b, off, none⟩ : Addr).add q) = some u := by simpa using hat
          have hj1 : way.length - r.length = j + 1 := by have : (z :: r).length = r.length + 1 := rfl; have : r.length < way.length := by omega
                                                         omega
          obtain ⟨B2, hB2⟩ : ∃ B2, B2 = slA A c (j + 1) := ⟨_, rfl⟩
          have hfr' : ∀ W, (Instr.slice 22 (.slice (some ⟨b, off, none⟩) (z :: r).length (c - j)) (some (.int .i64 1)) none none).run Try.prog W = .ok (.slice B2 ((z :: r).length - 1) (c - j - 1)) W := fun W => by
            have := run_from32 Try.underlying22 size_a (slA A c j) (z :: r).length (c - j) 1 (by simp) hrows.le W
            rw [hB2]
            rw [hA] at this
            show _ = Result.ok (Value.slice (if c - j = 1 then slA A c j else (slA A c j).map fun ad => ad.add (1 * 32)) _ _) W
            rw [hA]
            exact this
          rw [show RGroPost A c way (some (x, y, z :: r)) = fun e => e = .returned (.agg (bothC x y (.slice (slA A c (way.length - (z :: r).length)) (z :: r).length (c - (way.length - (z :: r).length))) true).toArray) from rfl, ← hj, hA] at hin
          refine (rgrow_left_ok w old x y m n (half n) way.length c A whole (Lib.hid ho) (Lib.hid hx) (Lib.hid hy) (by omega) (by omega) (by omega) (by omega) (by omega) (by omega) (by omega) hm b off (z :: r).length (c - j) z x (nodeL y z) B2 (Lib.hid hzl) (Lib.hid hx) (Lib.hid (nodeL_length _ _)) (by simp) (by simp) (Lib.hid hat') hfr' (fun W => rnode_any y z W hy hzl) hsp hin).mono fun e w' h => ⟨?_, h.2⟩
          show e = _
          rw [h.1, hj1, ← hB2, show (z :: r).length - 1 = r.length by simp, show c - j - 1 = c - (j + 1) by omega]
      · rw [growO_right hb hm]
        have e1 : ((n - half n : Nat) : Int) = (n : Int) - (half n : Int) := by omega
        have e2 : ((m - half n : Nat) : Int) = (m : Int) - (half n : Int) := by omega
        have hin := fun W (hW : w.grownBy W none) => ih (m - half n) (n - half n) old false A c way w0 W (by omega) (by omega) (by omega) (by omega) ho (grownBy_trans hg hW) hw hc
        have hlen := growO_len (n - half n) (m - half n) (n - half n) old false way (Nat.le_refl _) ho hw.all
        rw [e1, e2] at hin
        match hoo : growO old (m - half n) (n - half n) false way with
        | none =>
          rw [hoo] at hin
          exact rgrow_right_no w old zeros32 zeros32 m n (half n) way.length c A whole (Lib.hid ho) (Lib.hid hz) (Lib.hid hz) (by omega) (by omega) (by omega) (by omega) (by omega) (by omega) (by omega) hm hsp hin
        | some (x, y, []) =>
          rw [hoo] at hin
          obtain ⟨hx, hy, k, hk, hr⟩ := hlen x y [] hoo
          exact rgrow_right_empty w old x y m n (half n) way.length c A whole (Lib.hid ho) (Lib.hid hx) (Lib.hid hy) (by omega) (by omega) (by omega) (by omega) (by omega) (by omega) (by omega) hm _ _ hsp hin
        | some (x, y, z :: r) =>
          rw [hoo] at hin
          obtain ⟨hx, hy, k, hk, hr⟩ := hlen x y (z :: r) hoo
          obtain ⟨j, hj⟩ : ∃ j, j = way.length - (z :: r).length := ⟨_, rfl⟩
          have hlr : (z :: r).length = way.length - k := by rw [hr]; simp
          have hjk : j = k := by omega
          have hrows := (slA_rows hw j (by omega)).keep hg
          rw [hjk, ← hr] at hrows
          rw [← hjk] at hrows
          obtain ⟨b, off, hA, hat⟩ := hrows.at_ 0 (by simp)
          have hzl : z.length = 32 := hrows.all z (by simp)
          have hat' : ∀ q u, (c8 z)[q]? = some u → w.cell? ((⟨b, off, none⟩ : Addr).add q) = some u := by simpa using hat
          have hj1 : way.length - r.length = j + 1 := by have : (z :: r).length = r.length + 1 := rfl; have : r.length < way.length := by omega
                                                         omega
          obtain ⟨B2, hB2⟩ : ∃ B2, B2 = slA A c (j + 1) := ⟨_, rfl⟩
          have hfr' : ∀ W, (Instr.slice 22 (.slice (some ⟨b, off, none⟩) (z :: r).length (c - j)) (some (.int .i64 1)) none none).run Try.prog W = .ok (.slice B2 ((z :: r).length - 1) (c - j - 1)) W := fun W => by
            have := run_from32 Try.underlying22 size_a (slA A c j) (z :: r).length (c - j) 1 (by simp) hrows.le W
            rw [hB2]
            rw [hA] at this
            show _ = Result.ok (Value.slice (if c - j = 1 then slA A c j else (slA A c j).map fun ad => ad.add (1 * 32)) _ _) W
            rw [hA]
            exact this
          rw [show RGroPost A c way (some (x, y, z :: r)) = fun e => e = .returned (.agg (bothC x y (.slice (slA A c (way.length - (z :: r).length)) (z :: r).length (c - (way.length - (z :: r).length))) true).toArray) from rfl, ← hj, hA] at hin
          refine (rgrow_right_ok w old x y m n (half n) way.length c A whole (Lib.hid ho) (Lib.hid hx) (Lib.hid hy) (by omega) (by omega) (by omega) (by omega) (by omega) (by omega) (by omega) hm b off (z :: r).length (c - j) z (nodeL z x) (nodeL z y) B2 (Lib.hid hzl) (Lib.hid (nodeL_length _ _)) (Lib.hid (nodeL_length _ _)) (by simp) (by simp) (Lib.hid hat') hfr' (fun W => rnode_any z x W hzl hx) (fun W => rnode_any z y W hzl hy) hsp hin).mono fun e w' h => ⟨?_, h.2⟩
          show e = _
          rw [h.1, hj1, ← hB2, show (z :: r).length - 1 = r.length by simp, show c - j - 1 = c - (j + 1) by omega]
end Go.Proofs.Ytpohjldhbaalbaa
