/- The contracts of Path, the program's and the document's, and of Same. -/
import Derived.Test.YtpohjldhbaalbaaRoot3
namespace Go.Proofs.Ytpohjldhbaalbaa
set_option linter.unusedVariables false
set_option linter.unusedSimpArgs false
set_option linter.unusedSectionVars false
open Go.RowKit
set_option linter.unusedVariables false

theorem eq_dg (W : World) (a b : List UInt8) (ha : a.length = 32) (hb : b.length = 32) :
    (Op.equalIn 10000 27 (.agg (c8 a).toArray) (.agg (c8 b).toArray)).run Try.prog W = .ok (decide (a = b)) W :=
  run_eq8 W (D := 2) (k := 2) (n := 32) Try.underlying27 (by kernel_rfl) (by kernel_rfl)
    (reads8_array (n := 32) (c := 1) Try.underlying27 (by kernel_rfl) (by kernel_rfl) (reads8_u8 0 Try.underlying5)) a b ha hb 9998
theorem eq_a32 (W : World) (a b : List UInt8) (ha : a.length = 32) (hb : b.length = 32) :
    (Op.equalIn 10000 26 (.agg (c8 a).toArray) (.agg (c8 b).toArray)).run Try.prog W = .ok (decide (a = b)) W :=
  run_eq8 W (D := 2) (k := 2) (n := 32) Try.underlying26 (by kernel_rfl) (by kernel_rfl)
    (reads8_array (n := 32) (c := 1) Try.underlying26 (by kernel_rfl) (by kernel_rfl) (reads8_u8 0 Try.underlying5)) a b ha hb 9998
theorem pathL_spec : ∀ (m : Nat) (L : List (List UInt8)) (i : Nat), L.length ≤ m → L32 L → L32 (pathL L i) ∧ (pathL L i).length ≤ L.length := by
  intro m
  induction m with
  | zero => intro L i hm hL; rw [pathL_few (by omega)]; exact ⟨L32.nil, by simp⟩
  | succ m ih =>
    intro L i hm hL
    rcases Nat.lt_or_ge L.length 2 with h2 | h2
    · rw [pathL_few h2]; exact ⟨L32.nil, by simp⟩
    · have hlt := half_lt h2
      have hp := half_pos L.length
      by_cases hi : i < half L.length
      · rw [pathL_left h2 hi]
        obtain ⟨a, b⟩ := ih (L.take (half L.length)) i (by simp; omega) (hL.take _)
        exact ⟨a.snoc (rootL_length _ (hL.drop _)), by simp at b ⊢; omega⟩
      · rw [pathL_right h2 hi]
        obtain ⟨a, b⟩ := ih (L.drop (half L.length)) (i - half L.length) (by simp; omega) (hL.drop _)
        exact ⟨a.snoc (rootL_length _ (hL.take _)), by simp at b ⊢; omega⟩

set_option maxRecDepth 100000 in
set_option maxHeartbeats 4000000 in
theorem path_few (A : Option Addr) (c n : Nat) (i : Int) (w : World) (hn : n = 1) :
    Calls Try.prog 48 #[.slice A n c, .int .i64 i] w fun e w' => ∃ v, e = .returned v ∧ OwnsR w' w.heap.size 27 v [] ∧ w.grownBy w' none := by
  have t1 : (n : Int) = 1 := by omega
  have t2 : decide ((n : Int) = 1) = true := by simp; omega
  go_enter Try.func48, Try.ntmps48
  go_wp2
  go_ret
  exact ⟨_, rfl, ⟨L32.nil, World.ownsRow_nil w _ _ 32⟩, grownBy_refl _ _⟩

set_option maxRecDepth 100000 in
set_option maxHeartbeats 4000000 in
theorem path_left (A A' : Option Addr) (c n h i : Nat) (P : List (List UInt8)) (D : List UInt8) (w : World) (HP : Hid (P.length ≤ 4398046511000)) (HD : Hid (D.length = 32)) (n2 : (2 : Int) ≤ (n : Int)) (n3 : (n : Int) ≤ 9223372036854775807) (h0 : (0 : Int) ≤ (h : Int)) (i0 : (0 : Int) ≤ (i : Int))
    (cs : ∀ W, Calls Try.prog 46 #[.int .i64 (n : Int)] W fun e w' => e = .returned (.int .i64 (h : Int)) ∧ w' = W)
    (hto : ∀ W, (Instr.slice 31 (.slice A n c) none (some (.int .i64 (h : Int))) none).run Try.prog W = .ok (.slice A h c) W)
    (hfr : ∀ W, (Instr.slice 31 (.slice A n c) (some (.int .i64 (h : Int))) none none).run Try.prog W = .ok (.slice A' (n - h) (c - h)) W) 
    (cp : ∀ W, w.grownBy W none → Calls Try.prog 48 #[.slice A h c, .int .i64 (i : Int)] W fun e w' => ∃ v, e = .returned v ∧ OwnsR w' W.heap.size 27 v P ∧ W.grownBy w' none)
    (cr : ∀ W, w.grownBy W none → Calls Try.prog 17 #[.slice A' (n - h) (c - h)] W fun e w' => e = .returned (.agg (c8 D).toArray) ∧ W.grownBy w' none) (hi : (i : Int) < (h : Int)) (hi' : i < h) :
    Calls Try.prog 48 #[.slice A n c, .int .i64 (i : Int)] w fun e w' => ∃ v, e = .returned v ∧ OwnsR w' w.heap.size 27 v (P ++ [D]) ∧ w.grownBy w' none := by
  have HAD := Lib.hid (show L32 [D] from fun y hy => by rw [List.mem_singleton.1 hy]; exact HD.out)
  have t1 : decide ((n : Int) = 1) = false := by simp; omega
  have t3 : ¬ (n : Int) = 1 := by omega
  have t4 : decide ((n : Int) < 2) = false := by simp; omega
  have t5 : ¬ n < 2 := by omega
  have t6 : ¬ n = 1 := by omega
  have hS0 := Own.start w
  go_enter Try.func48, Try.ntmps48
  go_wp2_with fail
  refine (cs _).mono ?_
  rintro e w2 ⟨rfl, rfl⟩
  go_wp2_with fail
  have hS1 := hS0.drew
  clear hS0
  refine wp_region_mixC (fun W => Own w2 W []) (fun _ => true) [(0, true), (1, true), (2, true), (3, true), (5, true), (6, true), (7, true), (4, false), (8, false), (9, false), (10, false), (11, false)] (by kernel_rfl) (by kernel_rfl) (hS1.sub (List.nil_sublist _)) ?_
  iterate 7 (refine wpMix_step rfl (fun K hK => ?_); go_simp; (try go_bits); with_reducible refine hK _ ?_; clear hK K)
  refine wpMix_loudW _ rfl rfl ?_
  have HB0 := Lib.hid hS1.size
  go_wp2_with fail
  refine (cp _ hS1.grown).mono ?_
  rintro e w3 ⟨v, rfl, ho, hg⟩
  have hS2 := hS1.madeR ho hg
  have HBZ := Lib.hid hg.size
  clear hg ho hS1
  clear cp
  go_wp2_with fail
  refine wpMix_next' (fun _ => hS2.sub (List.nil_sublist _)) ?_
  refine wpMix_loudW _ rfl rfl ?_
  go_wp2_with fail
  refine (cr _ hS2.grown).mono ?_
  rintro e w4 ⟨rfl, hg⟩
  have hS3 := hS2.call hg
  have HBA := Lib.hid (Nat.le_trans HBZ.out hg.size)
  clear hg hS2
  go_wp2_with fail
  refine wpMix_next' (fun _ => hS3.sub (List.nil_sublist _)) ?_
  refine wpMix_loudW _ rfl rfl ?_
  go_wp2_with (refine wp_built1 rfl 31 (.tmp 23) rfl 27 Try.underlying31 32 info_zd (by omega) (by omega) (c8 D) (by rw [c8_length]; exact HD.out) rfl ?_)
  intro w7 hr hg
  have hS4 := hS3.new hr hg
  have HBB := Lib.hid (Nat.le_trans HBA.out hg.size)
  clear hS3 hr hg
  go_wp2_with fail
  refine wpMix_next' (fun _ => hS4.sub (List.nil_sublist _)) ?_
  refine wpMix_loudW _ rfl rfl ?_
  have hS4base := HBB.out
  go_wp2_with (refine wp_appR rfl (.tmp 19) (.tmp 24) 31 rfl 27 Try.underlying31 info_rd P (P ++ [D]) rfl (hS4.rows 1 rfl) _ 1 1 [D] rfl HAD.out (by simpa using src_row (hS4.row 0 rfl)) rfl rfl (by have := HP.out; simp; omega) hS4base ?_)
  intro v' w8 ho hg hv
  have hS5 := hS4.appendR 1 rfl ho hg (by first | exact hv | simpa using hv)
  clear hS4 ho hg hv
  go_wp2_with fail
  refine wpMix_next' (fun _ => hS5.sub (List.nil_sublist _)) ?_
  refine wpMix_loudW _ rfl rfl ?_
  go_wp2_with fail
  refine wpMix_next' (fun _ => hS5.sub (List.nil_sublist _)) ?_
  unfold wpMix
  go_wp2
  go_ret
  exact ⟨_, rfl, (hS5.rows 1 rfl).mono HB0.out, hS5.grown⟩

set_option maxRecDepth 100000 in
set_option maxHeartbeats 4000000 in
theorem path_right (A A' : Option Addr) (c n h i : Nat) (P : List (List UInt8)) (D : List UInt8) (w : World) (HP : Hid (P.length ≤ 4398046511000)) (HD : Hid (D.length = 32)) (n2 : (2 : Int) ≤ (n : Int)) (n3 : (n : Int) ≤ 9223372036854775807) (h0 : (0 : Int) ≤ (h : Int)) (i0 : (0 : Int) ≤ (i : Int))
    (cs : ∀ W, Calls Try.prog 46 #[.int .i64 (n : Int)] W fun e w' => e = .returned (.int .i64 (h : Int)) ∧ w' = W)
    (hto : ∀ W, (Instr.slice 31 (.slice A n c) none (some (.int .i64 (h : Int))) none).run Try.prog W = .ok (.slice A h c) W)
    (hfr : ∀ W, (Instr.slice 31 (.slice A n c) (some (.int .i64 (h : Int))) none none).run Try.prog W = .ok (.slice A' (n - h) (c - h)) W) (i8 : (i : Int) < (n : Int))
    (cp : ∀ W, w.grownBy W none → Calls Try.prog 48 #[.slice A' (n - h) (c - h), .int .i64 ((i : Int) - (h : Int))] W fun e w' => ∃ v, e = .returned v ∧ OwnsR w' W.heap.size 27 v P ∧ W.grownBy w' none)
    (cr : ∀ W, w.grownBy W none → Calls Try.prog 17 #[.slice A h c] W fun e w' => e = .returned (.agg (c8 D).toArray) ∧ W.grownBy w' none) (hi : (h : Int) ≤ (i : Int)) (hi' : ¬ i < h) :
    Calls Try.prog 48 #[.slice A n c, .int .i64 (i : Int)] w fun e w' => ∃ v, e = .returned v ∧ OwnsR w' w.heap.size 27 v (P ++ [D]) ∧ w.grownBy w' none := by
  have HAD := Lib.hid (show L32 [D] from fun y hy => by rw [List.mem_singleton.1 hy]; exact HD.out)
  have t1 : decide ((n : Int) = 1) = false := by simp; omega
  have t3 : ¬ (n : Int) = 1 := by omega
  have t4 : decide ((n : Int) < 2) = false := by simp; omega
  have t5 : ¬ n < 2 := by omega
  have t6 : ¬ n = 1 := by omega
  have i9 : (i : Int) ≤ 9223372036854775807 := by omega
  have hS0 := Own.start w
  go_enter Try.func48, Try.ntmps48
  go_wp2_with fail
  refine (cs _).mono ?_
  rintro e w2 ⟨rfl, rfl⟩
  go_wp2_with fail
  have hS1 := hS0.drew
  clear hS0
  refine wp_region_mixC (fun W => Own w2 W []) (fun _ => true) [(0, true), (1, true), (2, true), (3, true), (4, true), (5, true), (7, true), (8, true), (9, true), (6, false), (10, false), (11, false), (12, false), (13, false)] (by kernel_rfl) (by kernel_rfl) (hS1.sub (List.nil_sublist _)) ?_
  iterate 9 (refine wpMix_step rfl (fun K hK => ?_); go_simp; (try go_bits); with_reducible refine hK _ ?_; clear hK K)
  refine wpMix_loudW _ rfl rfl ?_
  have HB0 := Lib.hid hS1.size
  go_wp2_with fail
  refine (cp _ hS1.grown).mono ?_
  rintro e w3 ⟨v, rfl, ho, hg⟩
  have hS2 := hS1.madeR ho hg
  have HBZ := Lib.hid hg.size
  clear hg ho hS1
  clear cp
  go_wp2_with fail
  refine wpMix_next' (fun _ => hS2.sub (List.nil_sublist _)) ?_
  refine wpMix_loudW _ rfl rfl ?_
  go_wp2_with fail
  refine (cr _ hS2.grown).mono ?_
  rintro e w4 ⟨rfl, hg⟩
  have hS3 := hS2.call hg
  have HBA := Lib.hid (Nat.le_trans HBZ.out hg.size)
  clear hg hS2
  go_wp2_with fail
  refine wpMix_next' (fun _ => hS3.sub (List.nil_sublist _)) ?_
  refine wpMix_loudW _ rfl rfl ?_
  go_wp2_with (refine wp_built1 rfl 31 (.tmp 36) rfl 27 Try.underlying31 32 info_zd (by omega) (by omega) (c8 D) (by rw [c8_length]; exact HD.out) rfl ?_)
  intro w7 hr hg
  have hS4 := hS3.new hr hg
  have HBB := Lib.hid (Nat.le_trans HBA.out hg.size)
  clear hS3 hr hg
  go_wp2_with fail
  refine wpMix_next' (fun _ => hS4.sub (List.nil_sublist _)) ?_
  refine wpMix_loudW _ rfl rfl ?_
  have hS4base := HBB.out
  go_wp2_with (refine wp_appR rfl (.tmp 32) (.tmp 37) 31 rfl 27 Try.underlying31 info_rd P (P ++ [D]) rfl (hS4.rows 1 rfl) _ 1 1 [D] rfl HAD.out (by simpa using src_row (hS4.row 0 rfl)) rfl rfl (by have := HP.out; simp; omega) hS4base ?_)
  intro v' w8 ho hg hv
  have hS5 := hS4.appendR 1 rfl ho hg (by first | exact hv | simpa using hv)
  clear hS4 ho hg hv
  go_wp2_with fail
  refine wpMix_next' (fun _ => hS5.sub (List.nil_sublist _)) ?_
  refine wpMix_loudW _ rfl rfl ?_
  go_wp2_with fail
  refine wpMix_next' (fun _ => hS5.sub (List.nil_sublist _)) ?_
  unfold wpMix
  go_wp2
  go_ret
  exact ⟨_, rfl, (hS5.rows 1 rfl).mono HB0.out, hS5.grown⟩

theorem path_any : ∀ (m : Nat) (A : Option Addr) (c : Nat) (L : List (List UInt8)) (i : Nat) (w : World), L.length ≤ m → Rows32 w A c L → c ≤ 9223372036854775807 → L.length ≤ 4398046510000 → i < L.length →
    Calls Try.prog 48 #[.slice A L.length c, .int .i64 (i : Int)] w fun e w' => ∃ v, e = .returned v ∧ OwnsR w' w.heap.size 27 v (pathL L i) ∧ w.grownBy w' none := by
  intro m
  induction m with
  | zero => intro A c L i w hm hL hc hlm hi; omega
  | succ m ih =>
    intro A c L i w hm hL hc hlm hi
    rcases Nat.lt_or_ge L.length 2 with h2 | h2
    · rw [pathL_few h2]
      exact path_few A c L.length i w (by omega)
    · have hlt := half_lt h2
      have hp := half_pos L.length
      have hle := hL.le
      have hto := hL.take (half L.length) (by omega)
      have hfr := hL.drop (half L.length) (by omega)
      have l1 : (L.take (half L.length)).length = half L.length := by simp; omega
      have l2 : (L.drop (half L.length)).length = L.length - half L.length := by simp
      have hsp := fun W => split_any L.length W h2 (by omega)
      have hsT := fun W => run_to32 Try.underlying31 size_d A L.length c (half L.length) (by omega) W
      have hsF := fun W => run_from32 Try.underlying31 size_d A L.length c (half L.length) (by omega) hle W
      by_cases hih : i < half L.length
      · rw [pathL_left h2 hih]
        refine path_left A _ c L.length (half L.length) i (pathL (L.take (half L.length)) i) (rootL (L.drop (half L.length))) w (Lib.hid ?_) (Lib.hid (rootL_length _ hfr.all)) (by omega) (by omega) (by omega) (by omega) hsp hsT hsF (fun W hg => ?_) (fun W hg => ?_) (by omega) hih
        · have := (pathL_spec _ (L.take (half L.length)) i (Nat.le_refl _) hto.all).2
          rw [l1] at this; omega
        · have := ih A c (L.take (half L.length)) i W (by rw [l1]; omega) (hto.keep hg) hc (by rw [l1]; omega) (by rw [l1]; exact hih)
          rw [l1] at this
          exact this
        · have := root_any _ _ _ (L.drop (half L.length)) W (Nat.le_refl _) (hfr.keep hg) (by omega)
          rw [l2] at this
          exact this
      · rw [pathL_right h2 hih]
        refine path_right A _ c L.length (half L.length) i (pathL (L.drop (half L.length)) (i - half L.length)) (rootL (L.take (half L.length))) w (Lib.hid ?_) (Lib.hid (rootL_length _ hto.all)) (by omega) (by omega) (by omega) (by omega) hsp hsT hsF (by omega) (fun W hg => ?_) (fun W hg => ?_) (by omega) hih
        · have := (pathL_spec _ (L.drop (half L.length)) (i - half L.length) (Nat.le_refl _) hfr.all).2
          rw [l2] at this; omega
        · have := ih _ _ (L.drop (half L.length)) (i - half L.length) W (by rw [l2]; omega) (hfr.keep hg) (by omega) (by rw [l2]; omega) (by rw [l2]; omega)
          rw [l2, show ((i - half L.length : Nat) : Int) = (i : Int) - (half L.length : Int) by omega] at this
          exact this
        · have := root_any _ A c (L.take (half L.length)) W (Nat.le_refl _) (hto.keep hg) (by omega)
          rw [l1] at this
          exact this

set_option maxRecDepth 100000 in
set_option maxHeartbeats 4000000 in
theorem rpath_few (A : Option Addr) (c n : Nat) (i : Int) (w : World) (hn : n < 2) :
    Calls Try.prog 23 #[.slice A n c, .int .i64 i] w fun e w' => ∃ v, e = .returned v ∧ OwnsR w' w.heap.size 26 v [] ∧ w.grownBy w' none := by
  have t1 : (n : Int) < 2 := by omega
  have t2 : decide ((n : Int) < 2) = true := by simp; omega
  go_enter Try.func23, Try.ntmps23
  go_wp2
  go_ret
  exact ⟨_, rfl, ⟨L32.nil, World.ownsRow_nil w _ _ 32⟩, grownBy_refl _ _⟩

set_option maxRecDepth 100000 in
set_option maxHeartbeats 4000000 in
theorem rpath_left (A A' : Option Addr) (c n h i : Nat) (P : List (List UInt8)) (D : List UInt8) (w : World) (HP : Hid (P.length ≤ 4398046511000)) (HD : Hid (D.length = 32)) (n2 : (2 : Int) ≤ (n : Int)) (n3 : (n : Int) ≤ 9223372036854775807) (h0 : (0 : Int) ≤ (h : Int)) (i0 : (0 : Int) ≤ (i : Int))
    (cs : ∀ W, Calls Try.prog 47 #[.int .i64 (n : Int)] W fun e w' => e = .returned (.int .i64 (h : Int)) ∧ w' = W)
    (hto : ∀ W, (Instr.slice 22 (.slice A n c) none (some (.int .i64 (h : Int))) none).run Try.prog W = .ok (.slice A h c) W)
    (hfr : ∀ W, (Instr.slice 22 (.slice A n c) (some (.int .i64 (h : Int))) none none).run Try.prog W = .ok (.slice A' (n - h) (c - h)) W) 
    (cp : ∀ W, w.grownBy W none → Calls Try.prog 23 #[.slice A h c, .int .i64 (i : Int)] W fun e w' => ∃ v, e = .returned v ∧ OwnsR w' W.heap.size 26 v P ∧ W.grownBy w' none)
    (cr : ∀ W, w.grownBy W none → Calls Try.prog 19 #[.slice A' (n - h) (c - h)] W fun e w' => e = .returned (.agg (c8 D).toArray) ∧ W.grownBy w' none) (hi : (i : Int) < (h : Int)) (hi' : i < h) :
    Calls Try.prog 23 #[.slice A n c, .int .i64 (i : Int)] w fun e w' => ∃ v, e = .returned v ∧ OwnsR w' w.heap.size 26 v (P ++ [D]) ∧ w.grownBy w' none := by
  have HAD := Lib.hid (show L32 [D] from fun y hy => by rw [List.mem_singleton.1 hy]; exact HD.out)
  have t1 : decide ((n : Int) = 1) = false := by simp; omega
  have t3 : ¬ (n : Int) = 1 := by omega
  have t4 : decide ((n : Int) < 2) = false := by simp; omega
  have t5 : ¬ n < 2 := by omega
  have t6 : ¬ n = 1 := by omega
  have hS0 := Own.start w
  go_enter Try.func23, Try.ntmps23
  go_wp2_with fail
  refine (cs _).mono ?_
  rintro e w2 ⟨rfl, rfl⟩
  go_wp2_with fail
  have hS1 := hS0.drew
  clear hS0
  refine wp_region_mixC (fun W => Own w2 W []) (fun _ => true) [(0, true), (1, true), (2, true), (3, true), (5, true), (6, true), (7, true), (4, false), (8, false), (9, false), (10, false), (11, false)] (by kernel_rfl) (by kernel_rfl) (hS1.sub (List.nil_sublist _)) ?_
  iterate 7 (refine wpMix_step rfl (fun K hK => ?_); go_simp; (try go_bits); with_reducible refine hK _ ?_; clear hK K)
  refine wpMix_loudW _ rfl rfl ?_
  have HB0 := Lib.hid hS1.size
  go_wp2_with fail
  refine (cp _ hS1.grown).mono ?_
  rintro e w3 ⟨v, rfl, ho, hg⟩
  have hS2 := hS1.madeR ho hg
  have HBZ := Lib.hid hg.size
  clear hg ho hS1
  clear cp
  go_wp2_with fail
  refine wpMix_next' (fun _ => hS2.sub (List.nil_sublist _)) ?_
  refine wpMix_loudW _ rfl rfl ?_
  go_wp2_with fail
  refine (cr _ hS2.grown).mono ?_
  rintro e w4 ⟨rfl, hg⟩
  have hS3 := hS2.call hg
  have HBA := Lib.hid (Nat.le_trans HBZ.out hg.size)
  clear hg hS2
  go_wp2_with fail
  refine wpMix_next' (fun _ => hS3.sub (List.nil_sublist _)) ?_
  refine wpMix_loudW _ rfl rfl ?_
  go_wp2_with (refine wp_built1 rfl 22 (.tmp 23) rfl 26 Try.underlying22 32 info_za (by omega) (by omega) (c8 D) (by rw [c8_length]; exact HD.out) rfl ?_)
  intro w7 hr hg
  have hS4 := hS3.new hr hg
  have HBB := Lib.hid (Nat.le_trans HBA.out hg.size)
  clear hS3 hr hg
  go_wp2_with fail
  refine wpMix_next' (fun _ => hS4.sub (List.nil_sublist _)) ?_
  refine wpMix_loudW _ rfl rfl ?_
  have hS4base := HBB.out
  go_wp2_with (refine wp_appR rfl (.tmp 19) (.tmp 24) 22 rfl 26 Try.underlying22 info_ra P (P ++ [D]) rfl (hS4.rows 1 rfl) _ 1 1 [D] rfl HAD.out (by simpa using src_row (hS4.row 0 rfl)) rfl rfl (by have := HP.out; simp; omega) hS4base ?_)
  intro v' w8 ho hg hv
  have hS5 := hS4.appendR 1 rfl ho hg (by first | exact hv | simpa using hv)
  clear hS4 ho hg hv
  go_wp2_with fail
  refine wpMix_next' (fun _ => hS5.sub (List.nil_sublist _)) ?_
  refine wpMix_loudW _ rfl rfl ?_
  go_wp2_with fail
  refine wpMix_next' (fun _ => hS5.sub (List.nil_sublist _)) ?_
  unfold wpMix
  go_wp2
  go_ret
  exact ⟨_, rfl, (hS5.rows 1 rfl).mono HB0.out, hS5.grown⟩

set_option maxRecDepth 100000 in
set_option maxHeartbeats 4000000 in
theorem rpath_right (A A' : Option Addr) (c n h i : Nat) (P : List (List UInt8)) (D : List UInt8) (w : World) (HP : Hid (P.length ≤ 4398046511000)) (HD : Hid (D.length = 32)) (n2 : (2 : Int) ≤ (n : Int)) (n3 : (n : Int) ≤ 9223372036854775807) (h0 : (0 : Int) ≤ (h : Int)) (i0 : (0 : Int) ≤ (i : Int))
    (cs : ∀ W, Calls Try.prog 47 #[.int .i64 (n : Int)] W fun e w' => e = .returned (.int .i64 (h : Int)) ∧ w' = W)
    (hto : ∀ W, (Instr.slice 22 (.slice A n c) none (some (.int .i64 (h : Int))) none).run Try.prog W = .ok (.slice A h c) W)
    (hfr : ∀ W, (Instr.slice 22 (.slice A n c) (some (.int .i64 (h : Int))) none none).run Try.prog W = .ok (.slice A' (n - h) (c - h)) W) (i8 : (i : Int) < (n : Int))
    (cp : ∀ W, w.grownBy W none → Calls Try.prog 23 #[.slice A' (n - h) (c - h), .int .i64 ((i : Int) - (h : Int))] W fun e w' => ∃ v, e = .returned v ∧ OwnsR w' W.heap.size 26 v P ∧ W.grownBy w' none)
    (cr : ∀ W, w.grownBy W none → Calls Try.prog 19 #[.slice A h c] W fun e w' => e = .returned (.agg (c8 D).toArray) ∧ W.grownBy w' none) (hi : (h : Int) ≤ (i : Int)) (hi' : ¬ i < h) :
    Calls Try.prog 23 #[.slice A n c, .int .i64 (i : Int)] w fun e w' => ∃ v, e = .returned v ∧ OwnsR w' w.heap.size 26 v (P ++ [D]) ∧ w.grownBy w' none := by
  have HAD := Lib.hid (show L32 [D] from fun y hy => by rw [List.mem_singleton.1 hy]; exact HD.out)
  have t1 : decide ((n : Int) = 1) = false := by simp; omega
  have t3 : ¬ (n : Int) = 1 := by omega
  have t4 : decide ((n : Int) < 2) = false := by simp; omega
  have t5 : ¬ n < 2 := by omega
  have t6 : ¬ n = 1 := by omega
  have i9 : (i : Int) ≤ 9223372036854775807 := by omega
  have hS0 := Own.start w
  go_enter Try.func23, Try.ntmps23
  go_wp2_with fail
  refine (cs _).mono ?_
  rintro e w2 ⟨rfl, rfl⟩
  go_wp2_with fail
  have hS1 := hS0.drew
  clear hS0
  refine wp_region_mixC (fun W => Own w2 W []) (fun _ => true) [(0, true), (1, true), (2, true), (3, true), (4, true), (5, true), (7, true), (8, true), (9, true), (6, false), (10, false), (11, false), (12, false), (13, false)] (by kernel_rfl) (by kernel_rfl) (hS1.sub (List.nil_sublist _)) ?_
  iterate 9 (refine wpMix_step rfl (fun K hK => ?_); go_simp; (try go_bits); with_reducible refine hK _ ?_; clear hK K)
  refine wpMix_loudW _ rfl rfl ?_
  have HB0 := Lib.hid hS1.size
  go_wp2_with fail
  refine (cp _ hS1.grown).mono ?_
  rintro e w3 ⟨v, rfl, ho, hg⟩
  have hS2 := hS1.madeR ho hg
  have HBZ := Lib.hid hg.size
  clear hg ho hS1
  clear cp
  go_wp2_with fail
  refine wpMix_next' (fun _ => hS2.sub (List.nil_sublist _)) ?_
  refine wpMix_loudW _ rfl rfl ?_
  go_wp2_with fail
  refine (cr _ hS2.grown).mono ?_
  rintro e w4 ⟨rfl, hg⟩
  have hS3 := hS2.call hg
  have HBA := Lib.hid (Nat.le_trans HBZ.out hg.size)
  clear hg hS2
  go_wp2_with fail
  refine wpMix_next' (fun _ => hS3.sub (List.nil_sublist _)) ?_
  refine wpMix_loudW _ rfl rfl ?_
  go_wp2_with (refine wp_built1 rfl 22 (.tmp 36) rfl 26 Try.underlying22 32 info_za (by omega) (by omega) (c8 D) (by rw [c8_length]; exact HD.out) rfl ?_)
  intro w7 hr hg
  have hS4 := hS3.new hr hg
  have HBB := Lib.hid (Nat.le_trans HBA.out hg.size)
  clear hS3 hr hg
  go_wp2_with fail
  refine wpMix_next' (fun _ => hS4.sub (List.nil_sublist _)) ?_
  refine wpMix_loudW _ rfl rfl ?_
  have hS4base := HBB.out
  go_wp2_with (refine wp_appR rfl (.tmp 32) (.tmp 37) 22 rfl 26 Try.underlying22 info_ra P (P ++ [D]) rfl (hS4.rows 1 rfl) _ 1 1 [D] rfl HAD.out (by simpa using src_row (hS4.row 0 rfl)) rfl rfl (by have := HP.out; simp; omega) hS4base ?_)
  intro v' w8 ho hg hv
  have hS5 := hS4.appendR 1 rfl ho hg (by first | exact hv | simpa using hv)
  clear hS4 ho hg hv
  go_wp2_with fail
  refine wpMix_next' (fun _ => hS5.sub (List.nil_sublist _)) ?_
  refine wpMix_loudW _ rfl rfl ?_
  go_wp2_with fail
  refine wpMix_next' (fun _ => hS5.sub (List.nil_sublist _)) ?_
  unfold wpMix
  go_wp2
  go_ret
  exact ⟨_, rfl, (hS5.rows 1 rfl).mono HB0.out, hS5.grown⟩

theorem rpath_any : ∀ (m : Nat) (A : Option Addr) (c : Nat) (L : List (List UInt8)) (i : Nat) (w : World), L.length ≤ m → Rows32 w A c L → c ≤ 9223372036854775807 → L.length ≤ 4398046510000 → i < L.length →
    Calls Try.prog 23 #[.slice A L.length c, .int .i64 (i : Int)] w fun e w' => ∃ v, e = .returned v ∧ OwnsR w' w.heap.size 26 v (pathL L i) ∧ w.grownBy w' none := by
  intro m
  induction m with
  | zero => intro A c L i w hm hL hc hlm hi; omega
  | succ m ih =>
    intro A c L i w hm hL hc hlm hi
    rcases Nat.lt_or_ge L.length 2 with h2 | h2
    · rw [pathL_few h2]
      exact rpath_few A c L.length i w (by omega)
    · have hlt := half_lt h2
      have hp := half_pos L.length
      have hle := hL.le
      have hto := hL.take (half L.length) (by omega)
      have hfr := hL.drop (half L.length) (by omega)
      have l1 : (L.take (half L.length)).length = half L.length := by simp; omega
      have l2 : (L.drop (half L.length)).length = L.length - half L.length := by simp
      have hsp := fun W => rhalf_any L.length W h2 (by omega)
      have hsT := fun W => run_to32 Try.underlying22 size_a A L.length c (half L.length) (by omega) W
      have hsF := fun W => run_from32 Try.underlying22 size_a A L.length c (half L.length) (by omega) hle W
      by_cases hih : i < half L.length
      · rw [pathL_left h2 hih]
        refine rpath_left A _ c L.length (half L.length) i (pathL (L.take (half L.length)) i) (rootL (L.drop (half L.length))) w (Lib.hid ?_) (Lib.hid (rootL_length _ hfr.all)) (by omega) (by omega) (by omega) (by omega) hsp hsT hsF (fun W hg => ?_) (fun W hg => ?_) (by omega) hih
        · have := (pathL_spec _ (L.take (half L.length)) i (Nat.le_refl _) hto.all).2
          rw [l1] at this; omega
        · have := ih A c (L.take (half L.length)) i W (by rw [l1]; omega) (hto.keep hg) hc (by rw [l1]; omega) (by rw [l1]; exact hih)
          rw [l1] at this
          exact this
        · have := rroot_any _ _ _ (L.drop (half L.length)) W (Nat.le_refl _) (hfr.keep hg) (by omega)
          rw [l2] at this
          exact this
      · rw [pathL_right h2 hih]
        refine rpath_right A _ c L.length (half L.length) i (pathL (L.drop (half L.length)) (i - half L.length)) (rootL (L.take (half L.length))) w (Lib.hid ?_) (Lib.hid (rootL_length _ hto.all)) (by omega) (by omega) (by omega) (by omega) hsp hsT hsF (by omega) (fun W hg => ?_) (fun W hg => ?_) (by omega) hih
        · have := (pathL_spec _ (L.drop (half L.length)) (i - half L.length) (Nat.le_refl _) hfr.all).2
          rw [l2] at this; omega
        · have := ih _ _ (L.drop (half L.length)) (i - half L.length) W (by rw [l2]; omega) (hfr.keep hg) (by omega) (by rw [l2]; omega) (by rw [l2]; omega)
          rw [l2, show ((i - half L.length : Nat) : Int) = (i : Int) - (half L.length : Int) by omega] at this
          exact this
        · have := rroot_any _ A c (L.take (half L.length)) W (Nat.le_refl _) (hto.keep hg) (by omega)
          rw [l1] at this
          exact this

set_option maxRecDepth 100000 in
set_option maxHeartbeats 4000000 in
theorem same_any (A B : Option Addr) (c d : Nat) (L M : List (List UInt8)) (w : World) (hL : Rows32 w A c L) (hM : Rows32 w B d M) (hc : L.length ≤ 4398046511104) :
    Calls Try.prog 21 #[.slice A L.length c, .slice B M.length d] w fun e w' => e = .returned (.bool (decide (L = M))) ∧ w.grownBy w' none := by
  have HL := Lib.hid hL
  have HM := Lib.hid hM
  have n1 : (L.length : Int) ≤ 4398046511104 := by have := hL.le; omega
  have n0 : (0 : Int) ≤ (L.length : Int) := by omega
  have hS0 := Own.start w
  by_cases hlen : L.length = M.length
  · have HLEN := Lib.hid hlen
    rw [← hlen]
    obtain ⟨n, hn⟩ : ∃ n, n = L.length := ⟨_, rfl⟩
    rw [← hn] at n0 n1 ⊢
    have HN := Lib.hid hn
    clear hL hM hc hlen hn
    go_enter Try.func21, Try.ntmps21
    go_wp2
    go_loopw [5] (fun iv wr => ∃ k : Nat, k ≤ n ∧ iv = .int .i64 (k : Int) ∧ Hid (L.take k = M.take k) ∧ Own w wr []) (fun iv _ => n - (intOf iv).toNat)
    case atStart => exact ⟨0, by omega, rfl, Lib.hid (by simp), hS0⟩
    case round =>
      clear hS0
      obtain ⟨k, hk, rfl, HT, hS⟩ := hrel
      by_cases hlt : k < n
      · have q1 : (k : Int) < (n : Int) := by omega
        have hkL : k < L.length := by have := HN.out; omega
        have hkM : k < M.length := by have := HN.out; have := HLEN.out; omega
        have hgr := hS.grown
        obtain ⟨b, off, rfl, hat⟩ := (HL.out.keep hgr).at_ k hkL
        obtain ⟨b', off', rfl, hat'⟩ := (HM.out.keep hgr).at_ k hkM
        have hXl := HL.out.all.at_ k hkL
        have hYl := HM.out.all.at_ k hkM
        have ht1 : L.take (k + 1) = L.take k ++ [L.getD k []] := by rw [List.take_add_one, List.getElem?_eq_getElem hkL]; simp [hkL]
        have ht2 : M.take (k + 1) = M.take k ++ [M.getD k []] := by rw [List.take_add_one, List.getElem?_eq_getElem hkM]; simp [hkM]
        obtain ⟨X, hX⟩ : ∃ X, X = L.getD k [] := ⟨_, rfl⟩
        obtain ⟨Y, hY⟩ : ∃ Y, Y = M.getD k [] := ⟨_, rfl⟩
        have HXY := Lib.hid (show X ≠ Y → L ≠ M by rintro hne rfl; rw [hX, hY] at hne; exact hne rfl)
        rw [← hX] at hat hXl ht1
        rw [← hY] at hat' hYl ht2
        have heq := fun W => eq_a32 W X Y hXl hYl
        have HXA := Lib.hid (info_a32 X hXl)
        have HYA := Lib.hid (info_a32 Y hYl)
        have HK := Lib.hid (show k < n from hlt)
        have HT1 := Lib.hid ht1
        have HT2 := Lib.hid ht2
        have HA1 := Lib.hid (show ∀ W, Own wr W [] → ∀ j u, (c8 X)[j]? = some u → W.cell? ((⟨b, off + k * 32, none⟩ : Addr).add j) = some u from fun W hW j u hu => hW.cell (hat j u hu))
        have HA2 := Lib.hid (show ∀ W, Own wr W [] → ∀ j u, (c8 Y)[j]? = some u → W.cell? ((⟨b', off' + k * 32, none⟩ : Addr).add j) = some u from fun W hW j u hu => hW.cell (hat' j u hu))
        clear hX hY hat hat' hXl hYl hkL hkM hlt hk ht1 ht2 hgr
        have hR := Own.start wr
        go_wp2
        have hR1 := hR.drew
        clear hR
        refine wp_region_mixC (fun W => Own wr W _) (fun _ => true) [(0, true), (1, true), (2, true), (3, true), (4, true), (5, true), (6, true), (7, true), (8, true)] (by kernel_rfl) (by kernel_rfl) hR1 ?_
        iterate 3 (refine wpMix_step rfl (fun K hK => ?_); go_simp; (try go_bits); with_reducible refine hK _ ?_; clear hK K)
        refine wpMix_pureW (.agg (c8 X).toArray) rfl rfl (fun W hW => run_load_op 26 (.tmp 19) rfl Try.underlying26 rfl ⟨b, off + k * 32, none⟩ rfl _ HXA.out (HA1.out W hW)) ?_
        iterate 3 (refine wpMix_step rfl (fun K hK => ?_); go_simp; (try go_bits); with_reducible refine hK _ ?_; clear hK K)
        refine wpMix_pureW (.agg (c8 Y).toArray) rfl rfl (fun W hW => run_load_op 26 (.tmp 23) rfl Try.underlying26 rfl ⟨b', off' + k * 32, none⟩ rfl _ HYA.out (HA2.out W hW)) ?_
        have hS1 := hS.call hR1.grown
        clear hS hR1
        by_cases hXY : X = Y
        · rw [decide_eq_true hXY] at heq
          have HT3 := Lib.hid (show L.take (k + 1) = M.take (k + 1) by rw [HT1.out, HT2.out, HT.out, hXY])
          clear hXY
          iterate 1 (refine wpMix_step rfl (fun K hK => ?_); go_simp; (try go_bits); with_reducible refine hK _ ?_; clear hK K)
          unfold wpMix
          go_wp2
          go_roundw
          case rel => exact ⟨k + 1, by have := HK.out; omega, by go_num, HT3, hS1⟩
          case measure => have := HK.out; simp [intOf] <;> omega
        · rw [decide_eq_false hXY] at heq
          have HR := Lib.hid (show decide (L = M) = false from decide_eq_false (HXY.out hXY))
          clear hXY
          iterate 1 (refine wpMix_step rfl (fun K hK => ?_); go_simp; (try go_bits); with_reducible refine hK _ ?_; clear hK K)
          unfold wpMix
          go_wp2
          go_ret
          exact ⟨by rw [HR.out]; rfl, hS1.grown⟩
      · obtain rfl : k = n := by omega
        have hE := HT.out
        rw [List.take_of_length_le (by rw [HN.out]; exact Nat.le_refl _), List.take_of_length_le (by rw [HN.out, HLEN.out]; exact Nat.le_refl _)] at hE
        have HR := Lib.hid (show decide (L = M) = true from decide_eq_true hE)
        clear hE hlt hk
        go_wp2
        go_ret
        exact ⟨by rw [HR.out]; rfl, hS.grown⟩
  · have HR := Lib.hid (show decide (L = M) = false from decide_eq_false (fun e => hlen (by rw [e])))
    obtain ⟨n, hn⟩ : ∃ n, n = L.length := ⟨_, rfl⟩
    obtain ⟨m, hm⟩ : ∃ m, m = M.length := ⟨_, rfl⟩
    have t1 : decide ((n : Int) = (m : Int)) = false := by simp; omega
    have t2 : ¬ n = m := by omega
    rw [← hn, ← hm]
    clear hL hM hc hlen hn hm n0 n1
    go_enter Try.func21, Try.ntmps21
    go_wp2
    go_ret
    exact ⟨by rw [HR.out]; rfl, hS0.grown⟩
end Go.Proofs.Ytpohjldhbaalbaa
