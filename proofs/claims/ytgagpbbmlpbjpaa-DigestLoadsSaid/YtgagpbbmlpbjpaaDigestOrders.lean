/- The walk of the law DigestOrders. -/
import Derived.Test.YtgagpbbmlpbjpaaText
import Derived.Test.YtgagpbbmlpbjpaaCmp
namespace Go.Proofs.Ytgagpbbmlpbjpaa
open Go.RowKit

theorem eq_d32 (W : World) (a b : List UInt8) (ha : a.length = 32) (hb : b.length = 32) :
    (Op.equalIn 10000 24 (.agg (c8 a).toArray) (.agg (c8 b).toArray)).run Try.prog W = .ok (decide (a = b)) W :=
  run_eq8 W (D := 2) (k := 2) (n := 32) Try.underlying24 (by kernel_rfl) (by kernel_rfl)
    (reads8_array (n := 32) (c := 1) Try.underlying24 (by kernel_rfl) (by kernel_rfl) (reads8_u8 0 Try.underlying5)) a b ha hb 9998
theorem info_d32 (l : List UInt8) (h : l.length = 32) : (Try.prog.info? 24).map (·.size) = some (c8 l).length := by rw [c8_length, h]; kernel_rfl

/-- What two sums' order is, by both functions. -/
def CmpIs (a b : List UInt8) (x : Int) : Prop := ∀ w, Calls Try.prog 17 #[.agg (c8 a).toArray, .agg (c8 b).toArray] w fun e w' => e = .returned (.int .i64 x) ∧ w.grownBy w' none
def BelIs (a b : List UInt8) (x : Bool) : Prop := ∀ w, Calls Try.prog 18 #[.agg (c8 a).toArray, .agg (c8 b).toArray] w fun e w' => e = .returned (.bool x) ∧ w.grownBy w' none
theorem cmpIs (a b : List UInt8) (x : Int) (ha : a.length = 32) (hb : b.length = 32) (h : cmpL a b = x) : CmpIs a b x := fun w => by rw [← h]; exact compare_any a b w ha hb
theorem belIs (a b : List UInt8) (x : Bool) (ha : a.length = 32) (hb : b.length = 32) (h : belL a b = x) : BelIs a b x := fun w => by rw [← h]; exact below_any a b w ha hb

set_option maxRecDepth 100000 in
set_option maxHeartbeats 2000000 in
theorem orders_core (w : World) (a b c : List UInt8) (X Y Z : Int) (ia : Hid ((Try.prog.info? 24).map (·.size) = some (c8 a).length)) (ib : Hid ((Try.prog.info? 24).map (·.size) = some (c8 b).length)) (ic : Hid ((Try.prog.info? 24).map (·.size) = some (c8 c).length))
    (cab : CmpIs a b X) (cbc : CmpIs b c Y) (cac : CmpIs a c Z) (cba : CmpIs b a (-X)) (caa : CmpIs a a 0) (E : Bool)
    (heq : ∀ W : World, (Op.equalIn 10000 24 (.agg (c8 a).toArray) (.agg (c8 b).toArray)).run Try.prog W = .ok E W)
    (hX : X = -1 ∧ E = false ∧ BelIs a b true ∨ X = 0 ∧ E = true ∧ BelIs a b false ∧ BelIs b a false ∨ X = 1 ∧ E = false ∧ BelIs a b false ∧ BelIs b a true)
    (hZ : 0 < X ∨ 0 < Y ∨ Z ≤ 0) (hy : -1 ≤ Y ∧ Y ≤ 1) (hz : -1 ≤ Z ∧ Z ≤ 1) :
    Calls Try.prog 5 #[.agg (c8 a).toArray, .agg (c8 b).toArray, .agg (c8 c).toArray] w fun e w' => e = .returned (.bool true) ∧ w.grownBy w' none := by
  go_enter Try.func5, Try.ntmps5
  go_wp2_with (refine wp_box (o := ⟨some 3, _, _, _, _, _⟩) rfl 24 (.tmp 0) rfl (c8 a) rfl ?_)
  intro w1 hr hg hz
  clear hz
  have hS1 := (Own.start w).new hr hg
  clear hr hg
  go_wp2_with (refine wp_box (o := ⟨some 4, _, _, _, _, _⟩) rfl 24 (.tmp 1) rfl (c8 b) rfl ?_)
  intro w2 hr hg hz
  clear hz
  have hS2 := (hS1).new hr hg
  clear hr hg
  go_wp2_with (refine wp_box (o := ⟨some 5, _, _, _, _, _⟩) rfl 24 (.tmp 2) rfl (c8 c) rfl ?_)
  intro w3 hr hg hz
  clear hz
  have hS3 := (hS2).new hr hg
  clear hr hg
  clear hS1 hS2
  go_wp2_with fail
  have hS := hS3.drew
  clear hS3
  refine wp_region_mixC (fun W => Own w W _) (fun _ => true) [(0, true), (1, true), (3, true), (4, true), (6, true), (7, true), (2, false), (5, false), (8, false), (9, false), (10, false), (11, false)] (by kernel_rfl) (by kernel_rfl) hS ?_
  refine wpMix_pureW (.agg (c8 a).toArray) rfl rfl (fun W hW => run_load_op 24 (.tmp 3) rfl Try.underlying24 rfl ⟨w.heap.size, 0, none⟩ rfl _ ia.out (row_all (hW.row 2 rfl))) ?_
  refine wpMix_pureW (.agg (c8 b).toArray) rfl rfl (fun W hW => run_load_op 24 (.tmp 4) rfl Try.underlying24 rfl ⟨w1.heap.size, 0, none⟩ rfl _ ib.out (row_all (hW.row 1 rfl))) ?_
  refine wpMix_pureW (.agg (c8 b).toArray) rfl rfl (fun W hW => run_load_op 24 (.tmp 4) rfl Try.underlying24 rfl ⟨w1.heap.size, 0, none⟩ rfl _ ib.out (row_all (hW.row 1 rfl))) ?_
  refine wpMix_pureW (.agg (c8 c).toArray) rfl rfl (fun W hW => run_load_op 24 (.tmp 5) rfl Try.underlying24 rfl ⟨w2.heap.size, 0, none⟩ rfl _ ic.out (row_all (hW.row 0 rfl))) ?_
  refine wpMix_pureW (.agg (c8 a).toArray) rfl rfl (fun W hW => run_load_op 24 (.tmp 3) rfl Try.underlying24 rfl ⟨w.heap.size, 0, none⟩ rfl _ ia.out (row_all (hW.row 2 rfl))) ?_
  refine wpMix_pureW (.agg (c8 c).toArray) rfl rfl (fun W hW => run_load_op 24 (.tmp 5) rfl Try.underlying24 rfl ⟨w2.heap.size, 0, none⟩ rfl _ ic.out (row_all (hW.row 0 rfl))) ?_
  refine wpMix_loudW _ rfl rfl ?_
  go_wp2_with fail
  refine (cab _).mono ?_
  rintro e w4 ⟨rfl, hg⟩
  have hS4 := hS.call hg
  clear hg hS
  go_wp2_with fail
  refine wpMix_next' (fun _ => hS4) ?_
  refine wpMix_loudW _ rfl rfl ?_
  go_wp2_with fail
  refine (cbc _).mono ?_
  rintro e w5 ⟨rfl, hg⟩
  have hS5 := hS4.call hg
  clear hg hS4
  go_wp2_with fail
  refine wpMix_next' (fun _ => hS5) ?_
  refine wpMix_loudW _ rfl rfl ?_
  go_wp2_with fail
  refine (cac _).mono ?_
  rintro e w6 ⟨rfl, hg⟩
  have hS6 := hS5.call hg
  clear hg hS5
  go_wp2_with fail
  refine wpMix_next' (fun _ => hS6) ?_
  refine wpMix_loudW _ rfl rfl ?_
  go_wp2_with fail
  refine wpMix_next' (fun _ => hS6) ?_
  refine wpMix_loudW _ rfl rfl ?_
  go_wp2_with fail
  refine wpMix_next' (fun _ => hS6) ?_
  refine wpMix_loudW _ rfl rfl ?_
  go_wp2_with fail
  refine wpMix_next' (fun _ => hS6) ?_
  unfold wpMix
  rcases hX with ⟨rfl, rfl, bab⟩ | ⟨rfl, rfl, bab, bba⟩ | ⟨rfl, rfl, bab, bba⟩
  · have hZ' : 0 < Y ∨ Z ≤ 0 := by omega
    clear hZ
    have hZ := hZ'
    clear hZ'
    go_wp2_with (first | (refine wp_load rfl 24 (.tmp 3) rfl Try.underlying24 rfl ⟨w.heap.size, 0, none⟩ rfl (c8 a) ia.out (row_all (hS6.row 2 rfl)) ?_) | (refine wp_load rfl 24 (.tmp 4) rfl Try.underlying24 rfl ⟨w1.heap.size, 0, none⟩ rfl (c8 b) ib.out (row_all (hS6.row 1 rfl)) ?_))
    refine (bab _).mono ?_
    rintro e w8 ⟨rfl, hg⟩
    have hS8 := hS6.call hg
    clear hg hS6
    by_cases hY : 0 < Y
    · clear hZ
      go_wp2_with fail
      refine (awake_any _).mono ?_
      rintro e w9 ⟨rfl, hg⟩
      have hS9 := hS8.call hg
      clear hg hS8
      go_wp2_with (first | (refine wp_load rfl 24 (.tmp 3) rfl Try.underlying24 rfl ⟨w.heap.size, 0, none⟩ rfl (c8 a) ia.out (row_all (hS9.row 2 rfl)) ?_) | (refine wp_load rfl 24 (.tmp 4) rfl Try.underlying24 rfl ⟨w1.heap.size, 0, none⟩ rfl (c8 b) ib.out (row_all (hS9.row 1 rfl)) ?_))
      refine (cba _).mono ?_
      rintro e wA ⟨rfl, hg⟩
      have hSA := hS9.call hg
      clear hg hS9
      go_wp2_with (first | (refine wp_load rfl 24 (.tmp 3) rfl Try.underlying24 rfl ⟨w.heap.size, 0, none⟩ rfl (c8 a) ia.out (row_all (hSA.row 2 rfl)) ?_) | (refine wp_load rfl 24 (.tmp 4) rfl Try.underlying24 rfl ⟨w1.heap.size, 0, none⟩ rfl (c8 b) ib.out (row_all (hSA.row 1 rfl)) ?_))
      refine (caa _).mono ?_
      rintro e wB ⟨rfl, hg⟩
      have hSB := hSA.call hg
      clear hg hSA
      go_wp2_with (first | (refine wp_load rfl 24 (.tmp 3) rfl Try.underlying24 rfl ⟨w.heap.size, 0, none⟩ rfl (c8 a) ia.out (row_all (hSB.row 2 rfl)) ?_) | (refine wp_load rfl 24 (.tmp 4) rfl Try.underlying24 rfl ⟨w1.heap.size, 0, none⟩ rfl (c8 b) ib.out (row_all (hSB.row 1 rfl)) ?_))
      go_ret
      exact ⟨rfl, hSB.grown⟩
    · have hZ0 : Z ≤ 0 := by omega
      have t1 : decide (0 < Y) = false := by simp; omega
      clear hZ
      go_wp2_with fail
      refine (awake_any _).mono ?_
      rintro e w9 ⟨rfl, hg⟩
      have hS9 := hS8.call hg
      clear hg hS8
      go_wp2_with (first | (refine wp_load rfl 24 (.tmp 3) rfl Try.underlying24 rfl ⟨w.heap.size, 0, none⟩ rfl (c8 a) ia.out (row_all (hS9.row 2 rfl)) ?_) | (refine wp_load rfl 24 (.tmp 4) rfl Try.underlying24 rfl ⟨w1.heap.size, 0, none⟩ rfl (c8 b) ib.out (row_all (hS9.row 1 rfl)) ?_))
      refine (cba _).mono ?_
      rintro e wA ⟨rfl, hg⟩
      have hSA := hS9.call hg
      clear hg hS9
      go_wp2_with (first | (refine wp_load rfl 24 (.tmp 3) rfl Try.underlying24 rfl ⟨w.heap.size, 0, none⟩ rfl (c8 a) ia.out (row_all (hSA.row 2 rfl)) ?_) | (refine wp_load rfl 24 (.tmp 4) rfl Try.underlying24 rfl ⟨w1.heap.size, 0, none⟩ rfl (c8 b) ib.out (row_all (hSA.row 1 rfl)) ?_))
      refine (caa _).mono ?_
      rintro e wB ⟨rfl, hg⟩
      have hSB := hSA.call hg
      clear hg hSA
      go_wp2_with (first | (refine wp_load rfl 24 (.tmp 3) rfl Try.underlying24 rfl ⟨w.heap.size, 0, none⟩ rfl (c8 a) ia.out (row_all (hSB.row 2 rfl)) ?_) | (refine wp_load rfl 24 (.tmp 4) rfl Try.underlying24 rfl ⟨w1.heap.size, 0, none⟩ rfl (c8 b) ib.out (row_all (hSB.row 1 rfl)) ?_))
      go_ret
      exact ⟨rfl, hSB.grown⟩
  · have hZ' : 0 < Y ∨ Z ≤ 0 := by omega
    clear hZ
    have hZ := hZ'
    clear hZ'
    go_wp2_with (first | (refine wp_load rfl 24 (.tmp 3) rfl Try.underlying24 rfl ⟨w.heap.size, 0, none⟩ rfl (c8 a) ia.out (row_all (hS6.row 2 rfl)) ?_) | (refine wp_load rfl 24 (.tmp 4) rfl Try.underlying24 rfl ⟨w1.heap.size, 0, none⟩ rfl (c8 b) ib.out (row_all (hS6.row 1 rfl)) ?_))
    refine (bab _).mono ?_
    rintro e w7 ⟨rfl, hg⟩
    have hS7 := hS6.call hg
    clear hg hS6
    go_wp2_with (first | (refine wp_load rfl 24 (.tmp 3) rfl Try.underlying24 rfl ⟨w.heap.size, 0, none⟩ rfl (c8 a) ia.out (row_all (hS7.row 2 rfl)) ?_) | (refine wp_load rfl 24 (.tmp 4) rfl Try.underlying24 rfl ⟨w1.heap.size, 0, none⟩ rfl (c8 b) ib.out (row_all (hS7.row 1 rfl)) ?_))
    refine (bba _).mono ?_
    rintro e w8 ⟨rfl, hg⟩
    have hS8 := hS7.call hg
    clear hg hS7
    by_cases hY : 0 < Y
    · clear hZ
      go_wp2_with fail
      refine (awake_any _).mono ?_
      rintro e w9 ⟨rfl, hg⟩
      have hS9 := hS8.call hg
      clear hg hS8
      go_wp2_with (first | (refine wp_load rfl 24 (.tmp 3) rfl Try.underlying24 rfl ⟨w.heap.size, 0, none⟩ rfl (c8 a) ia.out (row_all (hS9.row 2 rfl)) ?_) | (refine wp_load rfl 24 (.tmp 4) rfl Try.underlying24 rfl ⟨w1.heap.size, 0, none⟩ rfl (c8 b) ib.out (row_all (hS9.row 1 rfl)) ?_))
      refine (cba _).mono ?_
      rintro e wA ⟨rfl, hg⟩
      have hSA := hS9.call hg
      clear hg hS9
      go_wp2_with (first | (refine wp_load rfl 24 (.tmp 3) rfl Try.underlying24 rfl ⟨w.heap.size, 0, none⟩ rfl (c8 a) ia.out (row_all (hSA.row 2 rfl)) ?_) | (refine wp_load rfl 24 (.tmp 4) rfl Try.underlying24 rfl ⟨w1.heap.size, 0, none⟩ rfl (c8 b) ib.out (row_all (hSA.row 1 rfl)) ?_))
      refine (caa _).mono ?_
      rintro e wB ⟨rfl, hg⟩
      have hSB := hSA.call hg
      clear hg hSA
      go_wp2_with (first | (refine wp_load rfl 24 (.tmp 3) rfl Try.underlying24 rfl ⟨w.heap.size, 0, none⟩ rfl (c8 a) ia.out (row_all (hSB.row 2 rfl)) ?_) | (refine wp_load rfl 24 (.tmp 4) rfl Try.underlying24 rfl ⟨w1.heap.size, 0, none⟩ rfl (c8 b) ib.out (row_all (hSB.row 1 rfl)) ?_))
      go_ret
      exact ⟨rfl, hSB.grown⟩
    · have hZ0 : Z ≤ 0 := by omega
      have t1 : decide (0 < Y) = false := by simp; omega
      clear hZ
      go_wp2_with fail
      refine (awake_any _).mono ?_
      rintro e w9 ⟨rfl, hg⟩
      have hS9 := hS8.call hg
      clear hg hS8
      go_wp2_with (first | (refine wp_load rfl 24 (.tmp 3) rfl Try.underlying24 rfl ⟨w.heap.size, 0, none⟩ rfl (c8 a) ia.out (row_all (hS9.row 2 rfl)) ?_) | (refine wp_load rfl 24 (.tmp 4) rfl Try.underlying24 rfl ⟨w1.heap.size, 0, none⟩ rfl (c8 b) ib.out (row_all (hS9.row 1 rfl)) ?_))
      refine (cba _).mono ?_
      rintro e wA ⟨rfl, hg⟩
      have hSA := hS9.call hg
      clear hg hS9
      go_wp2_with (first | (refine wp_load rfl 24 (.tmp 3) rfl Try.underlying24 rfl ⟨w.heap.size, 0, none⟩ rfl (c8 a) ia.out (row_all (hSA.row 2 rfl)) ?_) | (refine wp_load rfl 24 (.tmp 4) rfl Try.underlying24 rfl ⟨w1.heap.size, 0, none⟩ rfl (c8 b) ib.out (row_all (hSA.row 1 rfl)) ?_))
      refine (caa _).mono ?_
      rintro e wB ⟨rfl, hg⟩
      have hSB := hSA.call hg
      clear hg hSA
      go_wp2_with (first | (refine wp_load rfl 24 (.tmp 3) rfl Try.underlying24 rfl ⟨w.heap.size, 0, none⟩ rfl (c8 a) ia.out (row_all (hSB.row 2 rfl)) ?_) | (refine wp_load rfl 24 (.tmp 4) rfl Try.underlying24 rfl ⟨w1.heap.size, 0, none⟩ rfl (c8 b) ib.out (row_all (hSB.row 1 rfl)) ?_))
      go_ret
      exact ⟨rfl, hSB.grown⟩
  · clear hZ
    go_wp2_with (first | (refine wp_load rfl 24 (.tmp 3) rfl Try.underlying24 rfl ⟨w.heap.size, 0, none⟩ rfl (c8 a) ia.out (row_all (hS6.row 2 rfl)) ?_) | (refine wp_load rfl 24 (.tmp 4) rfl Try.underlying24 rfl ⟨w1.heap.size, 0, none⟩ rfl (c8 b) ib.out (row_all (hS6.row 1 rfl)) ?_))
    refine (bab _).mono ?_
    rintro e w7 ⟨rfl, hg⟩
    have hS7 := hS6.call hg
    clear hg hS6
    go_wp2_with (first | (refine wp_load rfl 24 (.tmp 3) rfl Try.underlying24 rfl ⟨w.heap.size, 0, none⟩ rfl (c8 a) ia.out (row_all (hS7.row 2 rfl)) ?_) | (refine wp_load rfl 24 (.tmp 4) rfl Try.underlying24 rfl ⟨w1.heap.size, 0, none⟩ rfl (c8 b) ib.out (row_all (hS7.row 1 rfl)) ?_))
    refine (bba _).mono ?_
    rintro e w8 ⟨rfl, hg⟩
    have hS8 := hS7.call hg
    clear hg hS7
    go_wp2_with fail
    refine (awake_any _).mono ?_
    rintro e w9 ⟨rfl, hg⟩
    have hS9 := hS8.call hg
    clear hg hS8
    go_wp2_with (first | (refine wp_load rfl 24 (.tmp 3) rfl Try.underlying24 rfl ⟨w.heap.size, 0, none⟩ rfl (c8 a) ia.out (row_all (hS9.row 2 rfl)) ?_) | (refine wp_load rfl 24 (.tmp 4) rfl Try.underlying24 rfl ⟨w1.heap.size, 0, none⟩ rfl (c8 b) ib.out (row_all (hS9.row 1 rfl)) ?_))
    refine (cba _).mono ?_
    rintro e wA ⟨rfl, hg⟩
    have hSA := hS9.call hg
    clear hg hS9
    go_wp2_with (first | (refine wp_load rfl 24 (.tmp 3) rfl Try.underlying24 rfl ⟨w.heap.size, 0, none⟩ rfl (c8 a) ia.out (row_all (hSA.row 2 rfl)) ?_) | (refine wp_load rfl 24 (.tmp 4) rfl Try.underlying24 rfl ⟨w1.heap.size, 0, none⟩ rfl (c8 b) ib.out (row_all (hSA.row 1 rfl)) ?_))
    refine (caa _).mono ?_
    rintro e wB ⟨rfl, hg⟩
    have hSB := hSA.call hg
    clear hg hSA
    go_wp2_with (first | (refine wp_load rfl 24 (.tmp 3) rfl Try.underlying24 rfl ⟨w.heap.size, 0, none⟩ rfl (c8 a) ia.out (row_all (hSB.row 2 rfl)) ?_) | (refine wp_load rfl 24 (.tmp 4) rfl Try.underlying24 rfl ⟨w1.heap.size, 0, none⟩ rfl (c8 b) ib.out (row_all (hSB.row 1 rfl)) ?_))
    go_ret
    exact ⟨rfl, hSB.grown⟩

theorem walk_DigestOrders (w : World) (a : List UInt8) (ha : a.length = 32) (b : List UInt8) (hb : b.length = 32) (c : List UInt8) (hc : c.length = 32) :
    Calls Try.prog 5 #[.agg (c8 a).toArray, .agg (c8 b).toArray, .agg (c8 c).toArray] w fun e w' => e = .returned (.bool true) ∧ w.grownBy w' none := by
  have hX := cmpL_range a b
  have hanti := cmpL_anti a b
  refine orders_core w a b c (cmpL a b) (cmpL b c) (cmpL a c) (Lib.hid (info_d32 a ha)) (Lib.hid (info_d32 b hb)) (Lib.hid (info_d32 c hc)) (cmpIs _ _ _ ha hb rfl) (cmpIs _ _ _ hb hc rfl) (cmpIs _ _ _ ha hc rfl) (cmpIs _ _ _ hb ha (cmpL_anti a b)) (cmpIs _ _ _ ha ha (cmpL_self a))
    (decide (a = b)) (fun W => eq_d32 W a b ha hb) ?_ ?_ (cmpL_range _ _) (cmpL_range _ _)
  · have hE : cmpL a b ≠ 0 → decide (a = b) = false := fun h => decide_eq_false fun e => h (by rw [e]; exact cmpL_self b)
    rcases (show cmpL a b = -1 ∨ cmpL a b = 0 ∨ cmpL a b = 1 by omega) with h | h | h
    · exact .inl ⟨h, hE (by omega), belIs _ _ _ ha hb (by simp [belL, h])⟩
    · exact .inr (.inl ⟨h, decide_eq_true (cmpL_eq a b (by rw [ha, hb]) h), belIs _ _ _ ha hb (by simp [belL, h]), belIs _ _ _ hb ha (by simp [belL, hanti, h])⟩)
    · exact .inr (.inr ⟨h, hE (by omega), belIs _ _ _ ha hb (by simp [belL, h]), belIs _ _ _ hb ha (by simp [belL, hanti, h])⟩)
  · by_cases h1 : 0 < cmpL a b
    · exact .inl h1
    · by_cases h2 : 0 < cmpL b c
      · exact .inr (.inl h2)
      · exact .inr (.inr (cmpL_trans a b c (by rw [ha, hb]) (by rw [hb, hc]) (by omega) (by omega)))
end Go.Proofs.Ytgagpbbmlpbjpaa
