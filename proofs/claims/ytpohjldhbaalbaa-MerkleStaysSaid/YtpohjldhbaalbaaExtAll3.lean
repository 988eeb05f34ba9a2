/- The contracts of Extends, the program's and the document's, of any numbers. -/
import Derived.Test.YtpohjldhbaalbaaExtend3
import Derived.Test.YtpohjldhbaalbaaRGrow3
namespace Go.Proofs.Ytpohjldhbaalbaa
set_option linter.unusedVariables false
set_option linter.unusedSimpArgs false
set_option linter.unusedSectionVars false
open Go.RowKit
set_option linter.unusedVariables false

def extZ (old : List UInt8) (m : Int) (root : List UInt8) (n : Int) (way : Way) : Bool := if m < 0 ∨ n < m then false else extL old m.toNat root n.toNat way

set_option maxRecDepth 100000 in
set_option maxHeartbeats 8000000 in
theorem ext_bad (w : World) (old root : List UInt8) (m n : Int) (s : Value) (hm : m < 0 ∨ (0 ≤ m ∧ n < m)) :
    Calls Try.prog 29 #[.agg (c8 old).toArray, .int .i64 m, .agg (c8 root).toArray, .int .i64 n, s] w fun e' w' => e' = .returned (.bool false) ∧ w.grownBy w' none := by
  rcases hm with hm | ⟨h0, hm⟩
  · skip
    have t1 : decide (m < 0) = true := by simp; omega
    go_enter Try.func29, Try.ntmps29
    go_wp2_with (refine wp_box (o := ⟨some 5, _, _, _, _, _⟩) rfl 27 (.tmp 0) rfl (c8 old) rfl ?_)
    intro w1 hr hg hz
    clear hz
    have hS1 := ((Own.start w)).new hr hg
    clear hr hg
    go_wp2_with (refine wp_box (o := ⟨some 7, _, _, _, _, _⟩) rfl 27 (.tmp 2) rfl (c8 root) rfl ?_)
    intro w2 hr hg hz
    clear hz
    have hS2 := (hS1).new hr hg
    clear hr hg
    go_wp2
    go_ret
    exact ⟨rfl, hS2.grown⟩
  · skip
    have t1 : decide (m < 0) = false := by simp; omega
    have t2 : decide (n < m) = true := by simp; omega
    go_enter Try.func29, Try.ntmps29
    go_wp2_with (refine wp_box (o := ⟨some 5, _, _, _, _, _⟩) rfl 27 (.tmp 0) rfl (c8 old) rfl ?_)
    intro w1 hr hg hz
    clear hz
    have hS1 := ((Own.start w)).new hr hg
    clear hr hg
    go_wp2_with (refine wp_box (o := ⟨some 7, _, _, _, _, _⟩) rfl 27 (.tmp 2) rfl (c8 root) rfl ?_)
    intro w2 hr hg hz
    clear hz
    have hS2 := (hS1).new hr hg
    clear hr hg
    go_wp2
    go_ret
    exact ⟨rfl, hS2.grown⟩

set_option maxRecDepth 100000 in
set_option maxHeartbeats 8000000 in
theorem rext_bad (w : World) (old root : List UInt8) (m n : Int) (s : Value) (hm : m < 0 ∨ (0 ≤ m ∧ n < m)) :
    Calls Try.prog 30 #[.agg (c8 old).toArray, .int .i64 m, .agg (c8 root).toArray, .int .i64 n, s] w fun e' w' => e' = .returned (.bool false) ∧ w.grownBy w' none := by
  rcases hm with hm | ⟨h0, hm⟩
  · skip
    have t1 : decide (m < 0) = true := by simp; omega
    go_enter Try.func30, Try.ntmps30
    go_wp2_with (refine wp_box (o := ⟨some 5, _, _, _, _, _⟩) rfl 26 (.tmp 0) rfl (c8 old) rfl ?_)
    intro w1 hr hg hz
    clear hz
    have hS1 := ((Own.start w)).new hr hg
    clear hr hg
    go_wp2_with (refine wp_box (o := ⟨some 7, _, _, _, _, _⟩) rfl 26 (.tmp 2) rfl (c8 root) rfl ?_)
    intro w2 hr hg hz
    clear hz
    have hS2 := (hS1).new hr hg
    clear hr hg
    go_wp2
    go_ret
    exact ⟨rfl, hS2.grown⟩
  · skip
    have t1 : decide (m < 0) = false := by simp; omega
    have t2 : decide (n < m) = true := by simp; omega
    go_enter Try.func30, Try.ntmps30
    go_wp2_with (refine wp_box (o := ⟨some 5, _, _, _, _, _⟩) rfl 26 (.tmp 0) rfl (c8 old) rfl ?_)
    intro w1 hr hg hz
    clear hz
    have hS1 := ((Own.start w)).new hr hg
    clear hr hg
    go_wp2_with (refine wp_box (o := ⟨some 7, _, _, _, _, _⟩) rfl 26 (.tmp 2) rfl (c8 root) rfl ?_)
    intro w2 hr hg hz
    clear hz
    have hS2 := (hS1).new hr hg
    clear hr hg
    go_wp2
    go_ret
    exact ⟨rfl, hS2.grown⟩

set_option maxRecDepth 100000 in
set_option maxHeartbeats 8000000 in
theorem ext_zero_many (w : World) (n q c : Nat) (old root S : List UInt8) (A : Option Addr) (HO : Hid (old.length = 32)) (HR : Hid (root.length = 32)) (hq : (0 : Int) < (q : Int)) (hq' : 0 < q) :
    Calls Try.prog 29 #[.agg (c8 old).toArray, .int .i64 0, .agg (c8 root).toArray, .int .i64 (n : Int), .slice A q c] w fun e' w' => e' = .returned (.bool false) ∧ w.grownBy w' none := by
  have Iold := Lib.hid (info_dg old HO.out)
  have Iroot := Lib.hid (info_dg root HR.out)
  have t2 : decide ((n : Int) < 0) = false := by simp
  have k2 : decide ((q : Int) = 0) = false := by simp; omega
  have k3 : ¬ q = 0 := by omega
  have k4 : ((q : Int) == 0) = false := by simp; omega
  go_enter Try.func29, Try.ntmps29
  go_wp2_with (refine wp_box (o := ⟨some 5, _, _, _, _, _⟩) rfl 27 (.tmp 0) rfl (c8 old) rfl ?_)
  intro w1 hr hg hz
  clear hz
  have hS1 := ((Own.start w)).new hr hg
  clear hr hg
  go_wp2_with (refine wp_box (o := ⟨some 7, _, _, _, _, _⟩) rfl 27 (.tmp 2) rfl (c8 root) rfl ?_)
  intro w2 hr hg hz
  clear hz
  have hS2 := (hS1).new hr hg
  clear hr hg
  clear hS1
  go_wp2_with fail
  have hS4 := hS2.drew
  clear hS2
  refine wp_region_mixC (fun W => Own w W _) (fun _ => true) [(0, true), (1, true), (2, true), (3, true), (4, true), (5, true), (6, true), (7, true), (8, true), (9, true), (10, true), (11, true), (12, true), (13, true), (14, true), (15, true), (16, true), (17, false)] (by kernel_rfl) (by kernel_rfl) hS4 ?_
  iterate 12 (refine wpMix_step rfl (fun K hK => ?_); go_simp; (try go_bits); with_reducible refine hK _ ?_; clear hK K)
  refine wpMix_step rfl (fun K hK => ?_); go_simp; rw [if_neg (by intro h; cases h)]; with_reducible refine hK _ ?_; clear hK K
  refine wpMix_step rfl (fun K hK => ?_); go_simp; rw [if_neg (by intro h; cases h)]; with_reducible refine hK _ ?_; clear hK K
  refine wpMix_step rfl (fun K hK => ?_); go_simp; rw [if_neg (by intro h; cases h)]; with_reducible refine hK _ ?_; clear hK K
  iterate 2 (refine wpMix_step rfl (fun K hK => ?_); go_simp; (try go_bits); with_reducible refine hK _ ?_; clear hK K)
  refine wpMix_loudW _ rfl rfl ?_
  go_wp2_with fail
  refine wpMix_next' (fun _ => hS4) ?_
  unfold wpMix
  go_wp2
  go_ret
  exact ⟨rfl, hS4.grown⟩

set_option maxRecDepth 100000 in
set_option maxHeartbeats 8000000 in
theorem ext_zero_ne (w : World) (n q c : Nat) (old root S : List UInt8) (A : Option Addr) (HO : Hid (old.length = 32)) (HR : Hid (root.length = 32))
    (cs : ∀ W, Calls Try.prog 44 #[.slice none 0 0] W fun e w' => e = .returned (.agg (c8 S).toArray) ∧ W.grownBy w' none)
    (eO : ∀ W : World, (Op.equalIn 10000 27 (.agg (c8 old).toArray) (.agg (c8 S).toArray)).run Try.prog W = .ok false W) :
    Calls Try.prog 29 #[.agg (c8 old).toArray, .int .i64 0, .agg (c8 root).toArray, .int .i64 (n : Int), .slice A 0 c] w fun e' w' => e' = .returned (.bool false) ∧ w.grownBy w' none := by
  have Iold := Lib.hid (info_dg old HO.out)
  have Iroot := Lib.hid (info_dg root HR.out)
  have t2 : decide ((n : Int) < 0) = false := by simp
  go_enter Try.func29, Try.ntmps29
  go_wp2_with (refine wp_box (o := ⟨some 5, _, _, _, _, _⟩) rfl 27 (.tmp 0) rfl (c8 old) rfl ?_)
  intro w1 hr hg hz
  clear hz
  have hS1 := ((Own.start w)).new hr hg
  clear hr hg
  go_wp2_with (refine wp_box (o := ⟨some 7, _, _, _, _, _⟩) rfl 27 (.tmp 2) rfl (c8 root) rfl ?_)
  intro w2 hr hg hz
  clear hz
  have hS2 := (hS1).new hr hg
  clear hr hg
  clear hS1
  go_wp2_with fail
  have hS3 := hS2.drew
  clear hS2
  refine wp_region_mixC (fun W => Own w W _) (fun _ => true) [(0, true), (1, true), (2, true), (3, true), (4, true), (5, false), (6, true), (7, true), (8, true), (9, true), (10, true), (11, true), (12, true), (13, true), (14, true), (15, true), (16, true), (17, false)] (by kernel_rfl) (by kernel_rfl) hS3 ?_
  iterate 4 (refine wpMix_step rfl (fun K hK => ?_); go_simp; (try go_bits); with_reducible refine hK _ ?_; clear hK K)
  refine wpMix_pureW (.agg (c8 old).toArray) rfl rfl (fun W hW => run_load_op 27 (.tmp 5) rfl Try.underlying27 rfl ⟨w.heap.size, 0, none⟩ rfl _ Iold.out (row_all (hW.row 1 rfl))) ?_
  refine wpMix_loudW _ rfl rfl ?_
  go_wp2_with fail
  refine (cs _).mono ?_
  rintro e w4 ⟨rfl, hg⟩
  have hS4 := hS3.call hg
  clear hg hS3
  go_wp2_with fail
  refine wpMix_next' (fun _ => hS4) ?_
  iterate 6 (refine wpMix_step rfl (fun K hK => ?_); go_simp; (try go_bits); with_reducible refine hK _ ?_; clear hK K)
  refine wpMix_step rfl (fun K hK => ?_); go_simp; rw [if_neg (by intro h; cases h)]; with_reducible refine hK _ ?_; clear hK K
  refine wpMix_step rfl (fun K hK => ?_); go_simp; rw [if_neg (by intro h; cases h)]; with_reducible refine hK _ ?_; clear hK K
  refine wpMix_step rfl (fun K hK => ?_); go_simp; rw [if_neg (by intro h; cases h)]; with_reducible refine hK _ ?_; clear hK K
  iterate 2 (refine wpMix_step rfl (fun K hK => ?_); go_simp; (try go_bits); with_reducible refine hK _ ?_; clear hK K)
  refine wpMix_loudW _ rfl rfl ?_
  go_wp2_with fail
  refine wpMix_next' (fun _ => hS4) ?_
  unfold wpMix
  go_wp2
  go_ret
  exact ⟨rfl, hS4.grown⟩

set_option maxRecDepth 100000 in
set_option maxHeartbeats 8000000 in
theorem ext_zero_n (w : World) (n q c : Nat) (old root S : List UInt8) (A : Option Addr) (HO : Hid (old.length = 32)) (HR : Hid (root.length = 32))
    (cs : ∀ W, Calls Try.prog 44 #[.slice none 0 0] W fun e w' => e = .returned (.agg (c8 S).toArray) ∧ W.grownBy w' none)
    (eO : ∀ W : World, (Op.equalIn 10000 27 (.agg (c8 old).toArray) (.agg (c8 S).toArray)).run Try.prog W = .ok true W)
    (b : Bool) (eR : ∀ W : World, (Op.equalIn 10000 27 (.agg (c8 root).toArray) (.agg (c8 old).toArray)).run Try.prog W = .ok b W) :
    Calls Try.prog 29 #[.agg (c8 old).toArray, .int .i64 0, .agg (c8 root).toArray, .int .i64 0, .slice A 0 c] w fun e' w' => e' = .returned (.bool b) ∧ w.grownBy w' none := by
  have Iold := Lib.hid (info_dg old HO.out)
  have Iroot := Lib.hid (info_dg root HR.out)
  go_enter Try.func29, Try.ntmps29
  go_wp2_with (refine wp_box (o := ⟨some 5, _, _, _, _, _⟩) rfl 27 (.tmp 0) rfl (c8 old) rfl ?_)
  intro w1 hr hg hz
  clear hz
  have hS1 := ((Own.start w)).new hr hg
  clear hr hg
  go_wp2_with (refine wp_box (o := ⟨some 7, _, _, _, _, _⟩) rfl 27 (.tmp 2) rfl (c8 root) rfl ?_)
  intro w2 hr hg hz
  clear hz
  have hS2 := (hS1).new hr hg
  clear hr hg
  clear hS1
  go_wp2_with fail
  have hS3 := hS2.drew
  clear hS2
  refine wp_region_mixC (fun W => Own w W _) (fun _ => true) [(0, true), (1, true), (2, true), (3, true), (4, true), (5, false), (6, true), (7, true), (8, true), (9, true), (10, true), (11, true), (12, true), (13, true), (14, true), (15, true), (16, true), (17, false)] (by kernel_rfl) (by kernel_rfl) hS3 ?_
  iterate 4 (refine wpMix_step rfl (fun K hK => ?_); go_simp; (try go_bits); with_reducible refine hK _ ?_; clear hK K)
  refine wpMix_pureW (.agg (c8 old).toArray) rfl rfl (fun W hW => run_load_op 27 (.tmp 5) rfl Try.underlying27 rfl ⟨w.heap.size, 0, none⟩ rfl _ Iold.out (row_all (hW.row 1 rfl))) ?_
  refine wpMix_loudW _ rfl rfl ?_
  go_wp2_with fail
  refine (cs _).mono ?_
  rintro e w4 ⟨rfl, hg⟩
  have hS4 := hS3.call hg
  clear hg hS3
  go_wp2_with fail
  refine wpMix_next' (fun _ => hS4) ?_
  iterate 6 (refine wpMix_step rfl (fun K hK => ?_); go_simp; (try go_bits); with_reducible refine hK _ ?_; clear hK K)
  refine wpMix_pureW (.agg (c8 root).toArray) rfl rfl (fun W hW => run_load_op 27 (.tmp 7) rfl Try.underlying27 rfl ⟨w1.heap.size, 0, none⟩ rfl _ Iroot.out (row_all (hW.row 0 rfl))) ?_
  refine wpMix_pureW (.agg (c8 old).toArray) rfl rfl (fun W hW => run_load_op 27 (.tmp 5) rfl Try.underlying27 rfl ⟨w.heap.size, 0, none⟩ rfl _ Iold.out (row_all (hW.row 1 rfl))) ?_
  iterate 3 (refine wpMix_step rfl (fun K hK => ?_); go_simp; (try go_bits); with_reducible refine hK _ ?_; clear hK K)
  refine wpMix_loudW _ rfl rfl ?_
  go_wp2_with fail
  refine wpMix_next' (fun _ => hS4) ?_
  unfold wpMix
  go_wp2
  go_ret
  exact ⟨rfl, hS4.grown⟩

set_option maxRecDepth 100000 in
set_option maxHeartbeats 8000000 in
theorem rext_zero_many (w : World) (m n q c : Nat) (old root S : List UInt8) (A : Option Addr) (HO : Hid (old.length = 32)) (HR : Hid (root.length = 32)) (HS : Hid (S.length = 32)) (hq : (0 : Int) < (q : Int)) (hq' : 0 < q)
    (cs : ∀ W, Calls Try.prog 45 #[.slice none 0 0] W fun e w' => e = .returned (.agg (c8 S).toArray) ∧ W.grownBy w' none) :
    Calls Try.prog 30 #[.agg (c8 old).toArray, .int .i64 0, .agg (c8 root).toArray, .int .i64 (n : Int), .slice A q c] w fun e' w' => e' = .returned (.bool false) ∧ w.grownBy w' none := by
  have Iold := Lib.hid (info_a32 old HO.out)
  have Iroot := Lib.hid (info_a32 root HR.out)
  have FS := Lib.hid (show 0 + (c8 S).length ≤ zd.length by rw [c8_length, HS.out]; decide)
  have ES := Lib.hid (show (c8 S).length = zd.length by rw [c8_length, HS.out]; decide)
  have IS := Lib.hid (info_a32 S HS.out)
  have t2 : decide ((n : Int) < 0) = false := by simp
  have k2 : decide ((q : Int) = 0) = false := by simp; omega
  have k3 : ¬ q = 0 := by omega
  have k4 : ((q : Int) == 0) = false := by simp; omega
  go_enter Try.func30, Try.ntmps30
  go_wp2_with (refine wp_box (o := ⟨some 5, _, _, _, _, _⟩) rfl 26 (.tmp 0) rfl (c8 old) rfl ?_)
  intro w1 hr hg hz
  clear hz
  have hS1 := ((Own.start w)).new hr hg
  clear hr hg
  go_wp2_with (refine wp_box (o := ⟨some 7, _, _, _, _, _⟩) rfl 26 (.tmp 2) rfl (c8 root) rfl ?_)
  intro w2 hr hg hz
  clear hz
  have hS2 := (hS1).new hr hg
  clear hr hg
  clear hS1
  go_wp2_with fail
  refine (cs _).mono ?_
  rintro e' w3 ⟨rfl, hg⟩
  have hS3 := hS2.call hg
  clear hg hS2
  go_wp2_with (refine wp_alloc (o := ⟨some 11, _, _, _, _, _⟩) rfl 26 rfl _ alloc_d32 ?_)
  intro w4 hr hg hz
  clear hz
  have hS4 := hS3.new hr hg
  clear hr hg
  go_wp2_with (refine wp_storeAgg rfl 26 (.tmp 11) (.tmp 22) rfl w3.heap.size 0 26 zd (c8 S) rfl rfl (hS4.row 0 rfl) IS.out FS.out (one8 _) ?_)
  intro w5 hr hg hz
  clear hz
  rw [splice_all ES.out] at hr
  have hS5 := hS4.setRow 0 rfl hr hg
  clear hr hg hS3 hS4
  go_wp2_with (first | (refine wp_load rfl 26 (.tmp 5) rfl Try.underlying26 rfl ⟨w.heap.size, 0, none⟩ rfl (c8 old) Iold.out (row_all (hS5.row 2 rfl)) ?_) | (refine wp_load rfl 26 (.tmp 11) rfl Try.underlying26 rfl ⟨w3.heap.size, 0, none⟩ rfl (c8 S) IS.out (row_all (hS5.row 0 rfl)) ?_) | (refine wp_load rfl 26 (.tmp 7) rfl Try.underlying26 rfl ⟨w1.heap.size, 0, none⟩ rfl (c8 root) Iroot.out (row_all (hS5.row 1 rfl)) ?_))
  go_ret
  exact ⟨rfl, hS5.grown⟩

set_option maxRecDepth 100000 in
set_option maxHeartbeats 8000000 in
theorem rext_zero_ne (w : World) (m n q c : Nat) (old root S : List UInt8) (A : Option Addr) (HO : Hid (old.length = 32)) (HR : Hid (root.length = 32)) (HS : Hid (S.length = 32))
    (cs : ∀ W, Calls Try.prog 45 #[.slice none 0 0] W fun e w' => e = .returned (.agg (c8 S).toArray) ∧ W.grownBy w' none)
    (eO : ∀ W : World, (Op.equalIn 10000 26 (.agg (c8 old).toArray) (.agg (c8 S).toArray)).run Try.prog W = .ok false W) :
    Calls Try.prog 30 #[.agg (c8 old).toArray, .int .i64 0, .agg (c8 root).toArray, .int .i64 (n : Int), .slice A 0 c] w fun e' w' => e' = .returned (.bool false) ∧ w.grownBy w' none := by
  have Iold := Lib.hid (info_a32 old HO.out)
  have Iroot := Lib.hid (info_a32 root HR.out)
  have FS := Lib.hid (show 0 + (c8 S).length ≤ zd.length by rw [c8_length, HS.out]; decide)
  have ES := Lib.hid (show (c8 S).length = zd.length by rw [c8_length, HS.out]; decide)
  have IS := Lib.hid (info_a32 S HS.out)
  have t2 : decide ((n : Int) < 0) = false := by simp
  go_enter Try.func30, Try.ntmps30
  go_wp2_with (refine wp_box (o := ⟨some 5, _, _, _, _, _⟩) rfl 26 (.tmp 0) rfl (c8 old) rfl ?_)
  intro w1 hr hg hz
  clear hz
  have hS1 := ((Own.start w)).new hr hg
  clear hr hg
  go_wp2_with (refine wp_box (o := ⟨some 7, _, _, _, _, _⟩) rfl 26 (.tmp 2) rfl (c8 root) rfl ?_)
  intro w2 hr hg hz
  clear hz
  have hS2 := (hS1).new hr hg
  clear hr hg
  clear hS1
  go_wp2_with fail
  refine (cs _).mono ?_
  rintro e' w3 ⟨rfl, hg⟩
  have hS3 := hS2.call hg
  clear hg hS2
  go_wp2_with (refine wp_alloc (o := ⟨some 11, _, _, _, _, _⟩) rfl 26 rfl _ alloc_d32 ?_)
  intro w4 hr hg hz
  clear hz
  have hS4 := hS3.new hr hg
  clear hr hg
  go_wp2_with (refine wp_storeAgg rfl 26 (.tmp 11) (.tmp 22) rfl w3.heap.size 0 26 zd (c8 S) rfl rfl (hS4.row 0 rfl) IS.out FS.out (one8 _) ?_)
  intro w5 hr hg hz
  clear hz
  rw [splice_all ES.out] at hr
  have hS5 := hS4.setRow 0 rfl hr hg
  clear hr hg hS3 hS4
  go_wp2_with (first | (refine wp_load rfl 26 (.tmp 5) rfl Try.underlying26 rfl ⟨w.heap.size, 0, none⟩ rfl (c8 old) Iold.out (row_all (hS5.row 2 rfl)) ?_) | (refine wp_load rfl 26 (.tmp 11) rfl Try.underlying26 rfl ⟨w3.heap.size, 0, none⟩ rfl (c8 S) IS.out (row_all (hS5.row 0 rfl)) ?_) | (refine wp_load rfl 26 (.tmp 7) rfl Try.underlying26 rfl ⟨w1.heap.size, 0, none⟩ rfl (c8 root) Iroot.out (row_all (hS5.row 1 rfl)) ?_))
  go_ret
  exact ⟨rfl, hS5.grown⟩

set_option maxRecDepth 100000 in
set_option maxHeartbeats 8000000 in
theorem rext_zero_t (w : World) (m n q c : Nat) (old root S : List UInt8) (A : Option Addr) (HO : Hid (old.length = 32)) (HR : Hid (root.length = 32)) (HS : Hid (S.length = 32)) (n1 : (0 : Int) < (n : Int)) (n1' : 0 < n)
    (cs : ∀ W, Calls Try.prog 45 #[.slice none 0 0] W fun e w' => e = .returned (.agg (c8 S).toArray) ∧ W.grownBy w' none)
    (eO : ∀ W : World, (Op.equalIn 10000 26 (.agg (c8 old).toArray) (.agg (c8 S).toArray)).run Try.prog W = .ok true W) :
    Calls Try.prog 30 #[.agg (c8 old).toArray, .int .i64 0, .agg (c8 root).toArray, .int .i64 (n : Int), .slice A 0 c] w fun e' w' => e' = .returned (.bool true) ∧ w.grownBy w' none := by
  have Iold := Lib.hid (info_a32 old HO.out)
  have Iroot := Lib.hid (info_a32 root HR.out)
  have FS := Lib.hid (show 0 + (c8 S).length ≤ zd.length by rw [c8_length, HS.out]; decide)
  have ES := Lib.hid (show (c8 S).length = zd.length by rw [c8_length, HS.out]; decide)
  have IS := Lib.hid (info_a32 S HS.out)
  have t2 : decide ((n : Int) < 0) = false := by simp
  have n2 : decide ((0 : Int) < (n : Int)) = true := by simp; omega
  have n3 : decide (0 < n) = true := by simp; omega
  go_enter Try.func30, Try.ntmps30
  go_wp2_with (refine wp_box (o := ⟨some 5, _, _, _, _, _⟩) rfl 26 (.tmp 0) rfl (c8 old) rfl ?_)
  intro w1 hr hg hz
  clear hz
  have hS1 := ((Own.start w)).new hr hg
  clear hr hg
  go_wp2_with (refine wp_box (o := ⟨some 7, _, _, _, _, _⟩) rfl 26 (.tmp 2) rfl (c8 root) rfl ?_)
  intro w2 hr hg hz
  clear hz
  have hS2 := (hS1).new hr hg
  clear hr hg
  clear hS1
  go_wp2_with fail
  refine (cs _).mono ?_
  rintro e' w3 ⟨rfl, hg⟩
  have hS3 := hS2.call hg
  clear hg hS2
  go_wp2_with (refine wp_alloc (o := ⟨some 11, _, _, _, _, _⟩) rfl 26 rfl _ alloc_d32 ?_)
  intro w4 hr hg hz
  clear hz
  have hS4 := hS3.new hr hg
  clear hr hg
  go_wp2_with (refine wp_storeAgg rfl 26 (.tmp 11) (.tmp 22) rfl w3.heap.size 0 26 zd (c8 S) rfl rfl (hS4.row 0 rfl) IS.out FS.out (one8 _) ?_)
  intro w5 hr hg hz
  clear hz
  rw [splice_all ES.out] at hr
  have hS5 := hS4.setRow 0 rfl hr hg
  clear hr hg hS3 hS4
  go_wp2_with (first | (refine wp_load rfl 26 (.tmp 5) rfl Try.underlying26 rfl ⟨w.heap.size, 0, none⟩ rfl (c8 old) Iold.out (row_all (hS5.row 2 rfl)) ?_) | (refine wp_load rfl 26 (.tmp 11) rfl Try.underlying26 rfl ⟨w3.heap.size, 0, none⟩ rfl (c8 S) IS.out (row_all (hS5.row 0 rfl)) ?_) | (refine wp_load rfl 26 (.tmp 7) rfl Try.underlying26 rfl ⟨w1.heap.size, 0, none⟩ rfl (c8 root) Iroot.out (row_all (hS5.row 1 rfl)) ?_))
  go_ret
  exact ⟨rfl, hS5.grown⟩

set_option maxRecDepth 100000 in
set_option maxHeartbeats 8000000 in
theorem rext_zero_n (w : World) (m n q c : Nat) (old root S : List UInt8) (A : Option Addr) (HO : Hid (old.length = 32)) (HR : Hid (root.length = 32)) (HS : Hid (S.length = 32))
    (cs : ∀ W, Calls Try.prog 45 #[.slice none 0 0] W fun e w' => e = .returned (.agg (c8 S).toArray) ∧ W.grownBy w' none)
    (eO : ∀ W : World, (Op.equalIn 10000 26 (.agg (c8 old).toArray) (.agg (c8 S).toArray)).run Try.prog W = .ok true W)
    (b : Bool) (eR : ∀ W : World, (Op.equalIn 10000 26 (.agg (c8 root).toArray) (.agg (c8 S).toArray)).run Try.prog W = .ok b W) :
    Calls Try.prog 30 #[.agg (c8 old).toArray, .int .i64 0, .agg (c8 root).toArray, .int .i64 0, .slice A 0 c] w fun e' w' => e' = .returned (.bool b) ∧ w.grownBy w' none := by
  have Iold := Lib.hid (info_a32 old HO.out)
  have Iroot := Lib.hid (info_a32 root HR.out)
  have FS := Lib.hid (show 0 + (c8 S).length ≤ zd.length by rw [c8_length, HS.out]; decide)
  have ES := Lib.hid (show (c8 S).length = zd.length by rw [c8_length, HS.out]; decide)
  have IS := Lib.hid (info_a32 S HS.out)
  go_enter Try.func30, Try.ntmps30
  go_wp2_with (refine wp_box (o := ⟨some 5, _, _, _, _, _⟩) rfl 26 (.tmp 0) rfl (c8 old) rfl ?_)
  intro w1 hr hg hz
  clear hz
  have hS1 := ((Own.start w)).new hr hg
  clear hr hg
  go_wp2_with (refine wp_box (o := ⟨some 7, _, _, _, _, _⟩) rfl 26 (.tmp 2) rfl (c8 root) rfl ?_)
  intro w2 hr hg hz
  clear hz
  have hS2 := (hS1).new hr hg
  clear hr hg
  clear hS1
  go_wp2_with fail
  refine (cs _).mono ?_
  rintro e' w3 ⟨rfl, hg⟩
  have hS3 := hS2.call hg
  clear hg hS2
  go_wp2_with (refine wp_alloc (o := ⟨some 11, _, _, _, _, _⟩) rfl 26 rfl _ alloc_d32 ?_)
  intro w4 hr hg hz
  clear hz
  have hS4 := hS3.new hr hg
  clear hr hg
  go_wp2_with (refine wp_storeAgg rfl 26 (.tmp 11) (.tmp 22) rfl w3.heap.size 0 26 zd (c8 S) rfl rfl (hS4.row 0 rfl) IS.out FS.out (one8 _) ?_)
  intro w5 hr hg hz
  clear hz
  rw [splice_all ES.out] at hr
  have hS5 := hS4.setRow 0 rfl hr hg
  clear hr hg hS3 hS4
  go_wp2_with (first | (refine wp_load rfl 26 (.tmp 5) rfl Try.underlying26 rfl ⟨w.heap.size, 0, none⟩ rfl (c8 old) Iold.out (row_all (hS5.row 2 rfl)) ?_) | (refine wp_load rfl 26 (.tmp 11) rfl Try.underlying26 rfl ⟨w3.heap.size, 0, none⟩ rfl (c8 S) IS.out (row_all (hS5.row 0 rfl)) ?_) | (refine wp_load rfl 26 (.tmp 7) rfl Try.underlying26 rfl ⟨w1.heap.size, 0, none⟩ rfl (c8 root) Iroot.out (row_all (hS5.row 1 rfl)) ?_))
  go_ret
  exact ⟨rfl, hS5.grown⟩

set_option maxRecDepth 100000 in
set_option maxHeartbeats 8000000 in
theorem rext_core (w : World) (m n q c : Nat) (old root a b : List UInt8) (A : Option Addr) (HO : Hid (old.length = 32)) (HR : Hid (root.length = 32)) (HA : Hid (a.length = 32)) (HB : Hid (b.length = 32)) (m0 : (1 : Int) ≤ (m : Int)) (mn : (m : Int) ≤ (n : Int)) (n2 : (n : Int) ≤ 9223372036854775807) (ok : Bool) (B : Option Addr) (k e : Nat) (R : Bool)
    (hbk : (ok = false ∧ R = false) ∨ (ok = true ∧ 0 < k ∧ R = false) ∨ (ok = true ∧ k = 0 ∧ R = (decide (a = old) && decide (b = root))))
    (cg : ∀ W, w.grownBy W none → Calls Try.prog 28 #[.agg (c8 old).toArray, .int .i64 (m : Int), .int .i64 (n : Int), .bool true, .slice A q c] W fun e2 w' => e2 = .returned (.agg (bothC a b (.slice B k e) ok).toArray) ∧ W.grownBy w' none)
    (eA : ∀ W : World, (Op.equalIn 10000 26 (.agg (c8 a).toArray) (.agg (c8 old).toArray)).run Try.prog W = .ok (decide (a = old)) W)
    (eB : ∀ W : World, (Op.equalIn 10000 26 (.agg (c8 b).toArray) (.agg (c8 root).toArray)).run Try.prog W = .ok (decide (b = root)) W) :
    Calls Try.prog 30 #[.agg (c8 old).toArray, .int .i64 (m : Int), .agg (c8 root).toArray, .int .i64 (n : Int), .slice A q c] w fun e' w' => e' = .returned (.bool R) ∧ w.grownBy w' none := by
  have Iold := Lib.hid (info_a32 old HO.out)
  have Iroot := Lib.hid (info_a32 root HR.out)
  have Ia := Lib.hid (info_a32 a HA.out)
  have Ib := Lib.hid (info_a32 b HB.out)
  have lx : (bothC a b (.slice B k e) ok).length = 66 := bothC_length _ _ _ _ HA.out HB.out
  have BIx := Lib.hid (info_both _ lx)
  have BFx := Lib.hid (show 0 + (bothC a b (.slice B k e) ok).length ≤ bothZ.length by rw [lx]; decide)
  have BEx := Lib.hid (show (bothC a b (.slice B k e) ok).length = bothZ.length by rw [lx]; decide)
  clear lx
  have t1 : decide ((m : Int) < 0) = false := by simp
  have t2 : decide ((n : Int) < (m : Int)) = false := by simp; omega
  have t3 : decide (n < m) = false := by simp; omega
  have t4 : decide ((m : Int) = 0) = false := by simp; omega
  have t5 : ((m : Int) == 0) = false := by simp; omega
  have t6 : ¬ m = 0 := by omega
  obtain ⟨qa, hqa⟩ : ∃ qa, qa = decide (a = old) := ⟨_, rfl⟩
  obtain ⟨qb, hqb⟩ : ∃ qb, qb = decide (b = root) := ⟨_, rfl⟩
  rw [← hqa] at eA hbk
  rw [← hqb] at eB hbk
  have HBK := Lib.hid hbk
  clear hqa hqb hbk
  go_enter Try.func30, Try.ntmps30
  go_wp2_with (refine wp_box (o := ⟨some 5, _, _, _, _, _⟩) rfl 26 (.tmp 0) rfl (c8 old) rfl ?_)
  intro w1 hr hg hz
  clear hz
  have hS1 := ((Own.start w)).new hr hg
  clear hr hg
  go_wp2_with (refine wp_box (o := ⟨some 7, _, _, _, _, _⟩) rfl 26 (.tmp 2) rfl (c8 root) rfl ?_)
  intro w2 hr hg hz
  clear hz
  have hS2 := (hS1).new hr hg
  clear hr hg
  clear hS1
  go_wp2_with (first | (refine wp_load rfl 26 (.tmp 5) rfl Try.underlying26 rfl ⟨w.heap.size, 0, none⟩ rfl (c8 old) Iold.out (row_all (hS2.row 1 rfl)) ?_))
  refine (cg _ hS2.grown).mono ?_
  rintro e' w3 ⟨rfl, hg⟩
  have hS3 := hS2.call hg
  clear hg hS2 cg
  go_wp2_with (refine wp_alloc (o := ⟨some 12, _, _, _, _, _⟩) rfl 50 rfl _ alloc_both ?_)
  intro w4 hr hg hz
  clear hz
  have hS4 := hS3.new hr hg
  clear hr hg
  go_wp2_with (refine wp_storeAgg rfl 50 (.tmp 12) (.tmp 44) rfl w3.heap.size 0 50 bothZ (bothC a b (.slice B k e) ok) rfl rfl (hS4.row 0 rfl) BIx.out BFx.out (one_both a b B k e ok) ?_)
  intro w5 hr hg hz
  clear hz
  rw [splice_all BEx.out] at hr
  have hS5 := hS4.setRow 0 rfl hr hg
  clear hr hg hS3 hS4
  rcases HBK.out with ⟨hb, hR⟩ | ⟨hb, hk, hR⟩ | ⟨hb, hk, hR⟩
  · subst hb
    have HRR := Lib.hid hR
    clear hR HBK
    go_wp2_with (first | (refine wp_cell rfl 4 (.tmp 45) rfl Try.underlying4 rfl ⟨w3.heap.size, 65, none⟩ rfl _ (both_ok (hS5.row 0 rfl) HA.out HB.out) ?_) | (refine wp_cell rfl 22 (.tmp 48) rfl Try.underlying22 rfl ⟨w3.heap.size, 64, none⟩ rfl _ (both_rest (hS5.row 0 rfl) HA.out HB.out) ?_) | (refine wp_load rfl 26 (.tmp 54) rfl Try.underlying26 rfl ⟨w3.heap.size, 0, none⟩ rfl (c8 a) Ia.out (both_old (hS5.row 0 rfl)) ?_) | (refine wp_load rfl 26 (.tmp 60) rfl Try.underlying26 rfl ⟨w3.heap.size, 32, none⟩ rfl (c8 b) Ib.out (both_new (hS5.row 0 rfl) HA.out) ?_) | (refine wp_load rfl 26 (.tmp 5) rfl Try.underlying26 rfl ⟨w.heap.size, 0, none⟩ rfl (c8 old) Iold.out (row_all (hS5.row 2 rfl)) ?_) | (refine wp_load rfl 26 (.tmp 7) rfl Try.underlying26 rfl ⟨w1.heap.size, 0, none⟩ rfl (c8 root) Iroot.out (row_all (hS5.row 1 rfl)) ?_))
    go_ret
    exact ⟨by rw [HRR.out]; rfl, hS5.grown⟩
  · subst hb
    have HRR := Lib.hid hR
    have k1 : (0 : Int) < (k : Int) := by omega
    have k2 : decide ((k : Int) = 0) = false := by simp; omega
    have k3 : ¬ k = 0 := by omega
    have k4 : ((k : Int) == 0) = false := by simp; omega
    clear hR HBK hk
    go_wp2_with (first | (refine wp_cell rfl 4 (.tmp 45) rfl Try.underlying4 rfl ⟨w3.heap.size, 65, none⟩ rfl _ (both_ok (hS5.row 0 rfl) HA.out HB.out) ?_) | (refine wp_cell rfl 22 (.tmp 48) rfl Try.underlying22 rfl ⟨w3.heap.size, 64, none⟩ rfl _ (both_rest (hS5.row 0 rfl) HA.out HB.out) ?_) | (refine wp_load rfl 26 (.tmp 54) rfl Try.underlying26 rfl ⟨w3.heap.size, 0, none⟩ rfl (c8 a) Ia.out (both_old (hS5.row 0 rfl)) ?_) | (refine wp_load rfl 26 (.tmp 60) rfl Try.underlying26 rfl ⟨w3.heap.size, 32, none⟩ rfl (c8 b) Ib.out (both_new (hS5.row 0 rfl) HA.out) ?_) | (refine wp_load rfl 26 (.tmp 5) rfl Try.underlying26 rfl ⟨w.heap.size, 0, none⟩ rfl (c8 old) Iold.out (row_all (hS5.row 2 rfl)) ?_) | (refine wp_load rfl 26 (.tmp 7) rfl Try.underlying26 rfl ⟨w1.heap.size, 0, none⟩ rfl (c8 root) Iroot.out (row_all (hS5.row 1 rfl)) ?_))
    go_ret
    exact ⟨by rw [HRR.out]; rfl, hS5.grown⟩
  · subst hb
    subst hk
    have HRR := Lib.hid hR
    clear hR HBK
    cases qa
    · skip
      go_wp2_with (first | (refine wp_cell rfl 4 (.tmp 45) rfl Try.underlying4 rfl ⟨w3.heap.size, 65, none⟩ rfl _ (both_ok (hS5.row 0 rfl) HA.out HB.out) ?_) | (refine wp_cell rfl 22 (.tmp 48) rfl Try.underlying22 rfl ⟨w3.heap.size, 64, none⟩ rfl _ (both_rest (hS5.row 0 rfl) HA.out HB.out) ?_) | (refine wp_load rfl 26 (.tmp 54) rfl Try.underlying26 rfl ⟨w3.heap.size, 0, none⟩ rfl (c8 a) Ia.out (both_old (hS5.row 0 rfl)) ?_) | (refine wp_load rfl 26 (.tmp 60) rfl Try.underlying26 rfl ⟨w3.heap.size, 32, none⟩ rfl (c8 b) Ib.out (both_new (hS5.row 0 rfl) HA.out) ?_) | (refine wp_load rfl 26 (.tmp 5) rfl Try.underlying26 rfl ⟨w.heap.size, 0, none⟩ rfl (c8 old) Iold.out (row_all (hS5.row 2 rfl)) ?_) | (refine wp_load rfl 26 (.tmp 7) rfl Try.underlying26 rfl ⟨w1.heap.size, 0, none⟩ rfl (c8 root) Iroot.out (row_all (hS5.row 1 rfl)) ?_))
      go_ret
      exact ⟨by rw [HRR.out]; rfl, hS5.grown⟩
    · skip
      go_wp2_with (first | (refine wp_cell rfl 4 (.tmp 45) rfl Try.underlying4 rfl ⟨w3.heap.size, 65, none⟩ rfl _ (both_ok (hS5.row 0 rfl) HA.out HB.out) ?_) | (refine wp_cell rfl 22 (.tmp 48) rfl Try.underlying22 rfl ⟨w3.heap.size, 64, none⟩ rfl _ (both_rest (hS5.row 0 rfl) HA.out HB.out) ?_) | (refine wp_load rfl 26 (.tmp 54) rfl Try.underlying26 rfl ⟨w3.heap.size, 0, none⟩ rfl (c8 a) Ia.out (both_old (hS5.row 0 rfl)) ?_) | (refine wp_load rfl 26 (.tmp 60) rfl Try.underlying26 rfl ⟨w3.heap.size, 32, none⟩ rfl (c8 b) Ib.out (both_new (hS5.row 0 rfl) HA.out) ?_) | (refine wp_load rfl 26 (.tmp 5) rfl Try.underlying26 rfl ⟨w.heap.size, 0, none⟩ rfl (c8 old) Iold.out (row_all (hS5.row 2 rfl)) ?_) | (refine wp_load rfl 26 (.tmp 7) rfl Try.underlying26 rfl ⟨w1.heap.size, 0, none⟩ rfl (c8 root) Iroot.out (row_all (hS5.row 1 rfl)) ?_))
      go_ret
      exact ⟨by rw [HRR.out]; rfl, hS5.grown⟩
theorem rext_main (m n : Nat) (old root : List UInt8) (A : Option Addr) (c : Nat) (way : Way) (w : World) (ho : old.length = 32) (hr : root.length = 32) (hw : Rows32 w A c way) (hc : c ≤ 9223372036854775807) (hn : n ≤ 9223372036854775807) (h1 : 1 ≤ m) (h2 : m ≤ n) :
    Calls Try.prog 30 #[.agg (c8 old).toArray, .int .i64 (m : Int), .agg (c8 root).toArray, .int .i64 (n : Int), .slice A way.length c] w fun e w' => e = .returned (.bool (extL old m root n way)) ∧ w.grownBy w' none := by
  have hg := fun W (hg : w.grownBy W none) => rgrow_any n m n old true A c way w W (Nat.le_refl _) h1 h2 hn ho hg hw hc
  have hlen := growO_len n m n old true way (Nat.le_refl _) ho hw.all
  unfold extL
  rw [if_neg (by omega)]
  have hz : zeros32.length = 32 := by simp [zeros32]
  match hoo : growO old m n true way with
  | none =>
    rw [hoo] at hg
    exact rext_core w m n way.length c old root zeros32 zeros32 A (Lib.hid ho) (Lib.hid hr) (Lib.hid hz) (Lib.hid hz) (by omega) (by omega) (by omega) false none 0 0 _ (.inl ⟨rfl, by simp⟩) hg (fun W => eq_a32 W _ _ hz ho) (fun W => eq_a32 W _ _ hz hr)
  | some (x, y, []) =>
    rw [hoo] at hg
    obtain ⟨hx, hy, _⟩ := hlen x y [] hoo
    refine rext_core w m n way.length c old root x y A (Lib.hid ho) (Lib.hid hr) (Lib.hid hx) (Lib.hid hy) (by omega) (by omega) (by omega) true _ 0 _ _ (.inr (.inr ⟨rfl, rfl, ?_⟩)) hg (fun W => eq_a32 W _ _ hx ho) (fun W => eq_a32 W _ _ hy hr)
    have e : (some (x, y, ([] : Way)) = some (old, root, [])) ↔ (x = old ∧ y = root) := by simp
    rw [← Bool.decide_and]
    exact decide_eq_decide.2 e
  | some (x, y, z :: r) =>
    rw [hoo] at hg
    obtain ⟨hx, hy, _⟩ := hlen x y (z :: r) hoo
    exact rext_core w m n way.length c old root x y A (Lib.hid ho) (Lib.hid hr) (Lib.hid hx) (Lib.hid hy) (by omega) (by omega) (by omega) true _ (z :: r).length _ _ (.inr (.inl ⟨rfl, by simp, by simp⟩)) hg (fun W => eq_a32 W _ _ hx ho) (fun W => eq_a32 W _ _ hy hr)
/-- Extends, of any numbers -/
theorem ext_any (m n : Int) (old root : List UInt8) (A : Option Addr) (c : Nat) (way : Way) (w : World) (ho : old.length = 32) (hr : root.length = 32) (hw : Rows32 w A c way) (hc : c ≤ 9223372036854775807) (hn : n ≤ 9223372036854775807) :
    Calls Try.prog 29 #[.agg (c8 old).toArray, .int .i64 m, .agg (c8 root).toArray, .int .i64 n, .slice A way.length c] w fun e w' => e = .returned (.bool (extZ old m root n way)) ∧ w.grownBy w' none := by
  unfold extZ
  by_cases hb : m < 0 ∨ n < m
  · rw [if_pos hb]
    exact ext_bad w old root m n _ (by omega)
  · rw [if_neg hb]
    obtain ⟨M, rfl⟩ := Int.eq_ofNat_of_zero_le (show 0 ≤ m by omega)
    obtain ⟨N, rfl⟩ := Int.eq_ofNat_of_zero_le (show 0 ≤ n by omega)
    have hS : (sha []).length = 32 := sha_length _
    by_cases h0 : M = 0
    · subst h0
      have hcs := fun W => dsum_any 0 none [] W (Bytes.nil _ _) (by simp) (by omega) (by simp)
      have eO := fun W => eq_dg W old (sha []) ho hS
      have eR := fun W => eq_dg W root old hr ho
      show Calls _ _ _ _ fun e w' => e = .returned (.bool (extL old 0 root N way)) ∧ _
      unfold extL
      rw [if_pos rfl]
      match way, hw with
      | x :: r, _ => exact (ext_zero_many w N (x :: r).length c old root (sha []) A (Lib.hid ho) (Lib.hid hr) (by simp <;> omega) (by simp)).mono fun e w' h => ⟨by rw [h.1]; simp, h.2⟩
      | [], _ =>
        by_cases he : old = sha []
        · rw [decide_eq_true he] at eO
          rcases Nat.eq_zero_or_pos N with h | h
          · subst h
            exact (ext_zero_n w 0 0 c old root (sha []) A (Lib.hid ho) (Lib.hid hr) hcs eO _ eR).mono fun e w' h => ⟨by rw [h.1]; simp [he], h.2⟩
          · refine (ext_zero w N c old root A (Lib.hid ho) (Lib.hid hr) (.inl h) ?_ ?_).mono fun e w' h2 => ⟨by rw [h2.1]; simp [he, h], h2.2⟩
            · rw [he]; exact hcs
            · rw [← he] at eO; exact eO
        · rw [decide_eq_false he] at eO
          exact (ext_zero_ne w N 0 c old root (sha []) A (Lib.hid ho) (Lib.hid hr) hcs eO).mono fun e w' h => ⟨by rw [h.1]; simp [he], h.2⟩
    · exact ext_main M N old root A c way w ho hr hw hc (by omega) (by omega) (by omega)
theorem rext_any (m n : Int) (old root : List UInt8) (A : Option Addr) (c : Nat) (way : Way) (w : World) (ho : old.length = 32) (hr : root.length = 32) (hw : Rows32 w A c way) (hc : c ≤ 9223372036854775807) (hn : n ≤ 9223372036854775807) :
    Calls Try.prog 30 #[.agg (c8 old).toArray, .int .i64 m, .agg (c8 root).toArray, .int .i64 n, .slice A way.length c] w fun e w' => e = .returned (.bool (extZ old m root n way)) ∧ w.grownBy w' none := by
  unfold extZ
  by_cases hb : m < 0 ∨ n < m
  · rw [if_pos hb]
    exact rext_bad w old root m n _ (by omega)
  · rw [if_neg hb]
    obtain ⟨M, rfl⟩ := Int.eq_ofNat_of_zero_le (show 0 ≤ m by omega)
    obtain ⟨N, rfl⟩ := Int.eq_ofNat_of_zero_le (show 0 ≤ n by omega)
    have hS : (sha []).length = 32 := sha_length _
    by_cases h0 : M = 0
    · subst h0
      have hcs := fun W => rsum_any 0 none [] W (Bytes.nil _ _) (by simp)
      have eO := fun W => eq_a32 W old (sha []) ho hS
      have eR := fun W => eq_a32 W root (sha []) hr hS
      show Calls _ _ _ _ fun e w' => e = .returned (.bool (extL old 0 root N way)) ∧ _
      unfold extL
      rw [if_pos rfl]
      match way, hw with
      | x :: r, _ => exact (rext_zero_many w 0 N (x :: r).length c old root (sha []) A (Lib.hid ho) (Lib.hid hr) (Lib.hid hS) (by simp <;> omega) (by simp) hcs).mono fun e w' h => ⟨by rw [h.1]; simp, h.2⟩
      | [], _ =>
        by_cases he : old = sha []
        · rw [decide_eq_true he] at eO
          rcases Nat.eq_zero_or_pos N with h | h
          · subst h
            exact (rext_zero_n w 0 0 0 c old root (sha []) A (Lib.hid ho) (Lib.hid hr) (Lib.hid hS) hcs eO _ eR).mono fun e w' h => ⟨by rw [h.1]; simp [he], h.2⟩
          · exact (rext_zero_t w 0 N 0 c old root (sha []) A (Lib.hid ho) (Lib.hid hr) (Lib.hid hS) (by omega) h hcs eO).mono fun e w' h2 => ⟨by rw [h2.1]; simp [he, h], h2.2⟩
        · rw [decide_eq_false he] at eO
          exact (rext_zero_ne w 0 N 0 c old root (sha []) A (Lib.hid ho) (Lib.hid hr) (Lib.hid hS) hcs eO).mono fun e w' h => ⟨by rw [h.1]; simp [he], h.2⟩
    · exact rext_main M N old root A c way w ho hr hw hc (by omega) (by omega) (by omega)
end Go.Proofs.Ytpohjldhbaalbaa
