/- The contracts of proof and part, of Proof, the program's and the document's. -/
import Derived.Test.YtpohjldhbaalbaaPath3
import Derived.Test.YtpohjldhbaalbaaGrowLaw
namespace Go.Proofs.Ytpohjldhbaalbaa
set_option linter.unusedVariables false
set_option linter.unusedSimpArgs false
set_option linter.unusedSectionVars false
open Go.RowKit
set_option linter.unusedVariables false

theorem ownsR_row {w : World} {g : Nat} {t : TypeId} {R : List UInt8} (h : Row w g t (c8 R)) (hR : R.length = 32) (base : Nat) (hb : base ≤ g) : OwnsR w base t (.slice (some ⟨g, 0, none⟩) 1 1) [R] := by
  refine ⟨fun y hy => by rw [List.mem_singleton.1 hy]; exact hR, by simp [hR], .inr ⟨g, 1, (c8 R).toArray, rfl, hb, h, Nat.le_refl _, by simp [maxLen], by simp [hR], ?_⟩⟩
  have : ([R] : List (List UInt8)).flatten = R := by simp
  rw [this]
  exact List.take_of_length_le (by simp [hR])
theorem partL_spec : ∀ (k : Nat) (L : Way) (m : Nat) (whole : Bool), L.length ≤ k → 1 ≤ L.length → L32 L → L32 (partL L m whole) ∧ (partL L m whole).length ≤ L.length := by
  have base : ∀ (L : Way) (m : Nat) (whole : Bool), 1 ≤ L.length → L32 L → (L.length < 2 ∨ m = L.length) → L32 (partL L m whole) ∧ (partL L m whole).length ≤ L.length := by
    intro L m whole h1 hL hb
    rw [partL_base hb]
    cases whole with
    | true => exact ⟨L32.nil, by simp⟩
    | false => exact ⟨fun y hy => by simp at hy; rw [hy]; exact rootL_length _ hL, by simpa using h1⟩
  intro k
  induction k with
  | zero => intro L m whole hk h1; omega
  | succ k ih =>
    intro L m whole hk h1 hL
    by_cases hb : L.length < 2 ∨ m = L.length
    · exact base L m whole h1 hL hb
    · have hlt := half_lt (n := L.length) (by omega)
      have hp := half_pos L.length
      by_cases hm : m ≤ half L.length
      · rw [partL_left hb hm]
        obtain ⟨a, b⟩ := ih (L.take (half L.length)) m whole (by simp; omega) (by simp; omega) (hL.take _)
        exact ⟨a.snoc (rootL_length _ (hL.drop _)), by simp at b ⊢; omega⟩
      · rw [partL_right hb hm]
        obtain ⟨a, b⟩ := ih (L.drop (half L.length)) (m - half L.length) false (by simp; omega) (by simp; omega) (hL.drop _)
        exact ⟨a.snoc (rootL_length _ (hL.take _)), by simp at b ⊢; omega⟩

set_option maxRecDepth 100000 in
set_option maxHeartbeats 4000000 in
theorem proof_whole (A : Option Addr) (c n m : Nat) (w : World) (hn : m = n) :
    Calls Try.prog 55 #[.slice A n c, .int .i64 (m : Int), .bool true] w fun e w' => ∃ v, e = .returned v ∧ OwnsR w' w.heap.size 27 v [] ∧ w.grownBy w' none := by
  subst hn
  go_enter Try.func55, Try.ntmps55
  go_wp2
  go_ret
  exact ⟨_, rfl, ⟨L32.nil, World.ownsRow_nil w _ _ 32⟩, grownBy_refl _ _⟩
set_option maxRecDepth 100000 in
set_option maxHeartbeats 4000000 in
theorem proof_root (A : Option Addr) (c n m : Nat) (R : List UInt8) (w : World) (HR : Hid (R.length = 32)) (hn : m = n) (cr' : ∀ W, w.grownBy W none → Calls Try.prog 17 #[.slice A n c] W fun e w' => e = .returned (.agg (c8 R).toArray) ∧ W.grownBy w' none) :
    Calls Try.prog 55 #[.slice A n c, .int .i64 (m : Int), .bool false] w fun e w' => ∃ v, e = .returned v ∧ OwnsR w' w.heap.size 27 v [R] ∧ w.grownBy w' none := by
  subst hn
  have hS0 := Own.start w
  go_enter Try.func55, Try.ntmps55
  go_wp2_with fail
  refine (cr' _ hS0.grown).mono ?_
  rintro e w4 ⟨rfl, hg⟩
  have hS3 := hS0.call hg
  have HBA := Lib.hid hg.size
  clear hg hS0
  go_wp2_with (refine wp_built1 rfl 31 (.tmp 14) rfl 27 Try.underlying31 32 info_zd (by omega) (by omega) (c8 R) (by rw [c8_length]; exact HR.out) rfl ?_)
  intro w7 hr hg
  have hS4 := hS3.new hr hg
  clear hS3 hr hg
  go_wp2
  go_ret
  exact ⟨_, rfl, ownsR_row (hS4.row 0 rfl) HR.out _ HBA.out, hS4.grown⟩

set_option maxRecDepth 100000 in
set_option maxHeartbeats 4000000 in
theorem proof_left (A A' : Option Addr) (c n h m : Nat) (P : List (List UInt8)) (D : List UInt8) (whole : Bool) (w : World) (HP : Hid (P.length ≤ 4398046511000)) (HD : Hid (D.length = 32)) (n2 : (2 : Int) ≤ (n : Int)) (n3 : (n : Int) ≤ 9223372036854775807) (h0 : (0 : Int) ≤ (h : Int)) (m0 : (1 : Int) ≤ (m : Int)) (mn : (m : Int) < (n : Int))
    (cs : ∀ W, Calls Try.prog 46 #[.int .i64 (n : Int)] W fun e w' => e = .returned (.int .i64 (h : Int)) ∧ w' = W)
    (hto : ∀ W, (Instr.slice 31 (.slice A n c) none (some (.int .i64 (h : Int))) none).run Try.prog W = .ok (.slice A h c) W)
    (hfr : ∀ W, (Instr.slice 31 (.slice A n c) (some (.int .i64 (h : Int))) none none).run Try.prog W = .ok (.slice A' (n - h) (c - h)) W)
    (cp : ∀ W, w.grownBy W none → Calls Try.prog 55 #[.slice A h c, .int .i64 (m : Int), .bool whole] W fun e w' => ∃ v, e = .returned v ∧ OwnsR w' W.heap.size 27 v P ∧ W.grownBy w' none)
    (cr : ∀ W, w.grownBy W none → Calls Try.prog 17 #[.slice A' (n - h) (c - h)] W fun e w' => e = .returned (.agg (c8 D).toArray) ∧ W.grownBy w' none) (hm : (m : Int) ≤ (h : Int)) (hm' : m ≤ h) :
    Calls Try.prog 55 #[.slice A n c, .int .i64 (m : Int), .bool whole] w fun e w' => ∃ v, e = .returned v ∧ OwnsR w' w.heap.size 27 v (P ++ [D]) ∧ w.grownBy w' none := by
  have HAD := Lib.hid (show L32 [D] from fun y hy => by rw [List.mem_singleton.1 hy]; exact HD.out)
  have t1 : decide ((m : Int) = (n : Int)) = false := by simp; omega
  have t2 : ((m : Int) == (n : Int)) = false := by simp; omega
  have t3 : ¬ m = n := by omega
  have t4 : decide ((m : Int) ≤ (h : Int)) = true := by simp; omega
  have t5 : decide (m ≤ h) = true := by simp; omega
  have t6 : (m : Int) ≤ 9223372036854775807 := by omega
  have hS0 := Own.start w
  go_enter Try.func55, Try.ntmps55
  go_wp2_with fail
  refine (cs _).mono ?_
  rintro e w2 ⟨rfl, rfl⟩
  go_wp2_with fail
  have hS1 := hS0.drew
  clear hS0
  refine wp_region_mixC (fun W => Own w2 W []) (fun _ => true) [(0, true), (1, true), (2, true), (3, true), (4, true), (6, true), (7, true), (8, true), (5, false), (9, false), (10, false), (11, false), (12, false)] (by kernel_rfl) (by kernel_rfl) (hS1.sub (List.nil_sublist _)) ?_
  iterate 8 (refine wpMix_step rfl (fun K hK => ?_); go_simp; (try go_bits); with_reducible refine hK _ ?_; clear hK K)
  refine wpMix_loudW _ rfl rfl ?_
  have HB0 := Lib.hid hS1.size
  go_wp2_with fail
  refine (cp _ hS1.grown).mono ?_
  rintro e w3 ⟨v, rfl, ho, hg⟩
  have hS2 := hS1.madeR ho hg
  have HBZ := Lib.hid hg.size
  clear hg ho hS1
  clear cp
  go_wp2_with fail
  refine wpMix_next' (fun _ => hS2.sub (List.nil_sublist _)) ?_
  refine wpMix_loudW _ rfl rfl ?_
  go_wp2_with fail
  refine (cr _ hS2.grown).mono ?_
  rintro e w4 ⟨rfl, hg⟩
  have hS3 := hS2.call hg
  have HBA := Lib.hid (Nat.le_trans HBZ.out hg.size)
  clear hg hS2
  go_wp2_with fail
  refine wpMix_next' (fun _ => hS3.sub (List.nil_sublist _)) ?_
  refine wpMix_loudW _ rfl rfl ?_
  go_wp2_with (refine wp_built1 rfl 31 (.tmp 31) rfl 27 Try.underlying31 32 info_zd (by omega) (by omega) (c8 D) (by rw [c8_length]; exact HD.out) rfl ?_)
  intro w7 hr hg
  have hS4 := hS3.new hr hg
  have HBB := Lib.hid (Nat.le_trans HBA.out hg.size)
  clear hS3 hr hg
  go_wp2_with fail
  refine wpMix_next' (fun _ => hS4.sub (List.nil_sublist _)) ?_
  refine wpMix_loudW _ rfl rfl ?_
  have hS4base := HBB.out
  go_wp2_with (refine wp_appR rfl (.tmp 27) (.tmp 32) 31 rfl 27 Try.underlying31 info_rd P (P ++ [D]) rfl (hS4.rows 1 rfl) _ 1 1 [D] rfl HAD.out (by simpa using src_row (hS4.row 0 rfl)) rfl rfl (by have := HP.out; simp; omega) hS4base ?_)
  intro v' w8 ho hg hv
  have hS5 := hS4.appendR 1 rfl ho hg (by first | exact hv | simpa using hv)
  clear hS4 ho hg hv
  go_wp2_with fail
  refine wpMix_next' (fun _ => hS5.sub (List.nil_sublist _)) ?_
  refine wpMix_loudW _ rfl rfl ?_
  go_wp2_with fail
  refine wpMix_next' (fun _ => hS5.sub (List.nil_sublist _)) ?_
  unfold wpMix
  go_wp2
  go_ret
  exact ⟨_, rfl, (hS5.rows 1 rfl).mono HB0.out, hS5.grown⟩

set_option maxRecDepth 100000 in
set_option maxHeartbeats 4000000 in
theorem proof_right (A A' : Option Addr) (c n h m : Nat) (P : List (List UInt8)) (D : List UInt8) (whole : Bool) (w : World) (HP : Hid (P.length ≤ 4398046511000)) (HD : Hid (D.length = 32)) (n2 : (2 : Int) ≤ (n : Int)) (n3 : (n : Int) ≤ 9223372036854775807) (h0 : (0 : Int) ≤ (h : Int)) (m0 : (1 : Int) ≤ (m : Int)) (mn : (m : Int) < (n : Int))
    (cs : ∀ W, Calls Try.prog 46 #[.int .i64 (n : Int)] W fun e w' => e = .returned (.int .i64 (h : Int)) ∧ w' = W)
    (hto : ∀ W, (Instr.slice 31 (.slice A n c) none (some (.int .i64 (h : Int))) none).run Try.prog W = .ok (.slice A h c) W)
    (hfr : ∀ W, (Instr.slice 31 (.slice A n c) (some (.int .i64 (h : Int))) none none).run Try.prog W = .ok (.slice A' (n - h) (c - h)) W)
    (cp : ∀ W, w.grownBy W none → Calls Try.prog 55 #[.slice A' (n - h) (c - h), .int .i64 ((m : Int) - (h : Int)), .bool false] W fun e w' => ∃ v, e = .returned v ∧ OwnsR w' W.heap.size 27 v P ∧ W.grownBy w' none)
    (cr : ∀ W, w.grownBy W none → Calls Try.prog 17 #[.slice A h c] W fun e w' => e = .returned (.agg (c8 D).toArray) ∧ W.grownBy w' none) (hm : (h : Int) < (m : Int)) (hm' : ¬ m ≤ h) :
    Calls Try.prog 55 #[.slice A n c, .int .i64 (m : Int), .bool whole] w fun e w' => ∃ v, e = .returned v ∧ OwnsR w' w.heap.size 27 v (P ++ [D]) ∧ w.grownBy w' none := by
  have HAD := Lib.hid (show L32 [D] from fun y hy => by rw [List.mem_singleton.1 hy]; exact HD.out)
  have t1 : decide ((m : Int) = (n : Int)) = false := by simp; omega
  have t2 : ((m : Int) == (n : Int)) = false := by simp; omega
  have t3 : ¬ m = n := by omega
  have t4 : decide ((m : Int) ≤ (h : Int)) = false := by simp; omega
  have t5 : decide (m ≤ h) = false := by simp; omega
  have t6 : (m : Int) ≤ 9223372036854775807 := by omega
  have hS0 := Own.start w
  go_enter Try.func55, Try.ntmps55
  go_wp2_with fail
  refine (cs _).mono ?_
  rintro e w2 ⟨rfl, rfl⟩
  go_wp2_with fail
  have hS1 := hS0.drew
  clear hS0
  refine wp_region_mixC (fun W => Own w2 W []) (fun _ => true) [(0, true), (1, true), (2, true), (3, true), (4, true), (5, true), (7, true), (8, true), (9, true), (6, false), (10, false), (11, false), (12, false), (13, false)] (by kernel_rfl) (by kernel_rfl) (hS1.sub (List.nil_sublist _)) ?_
  iterate 9 (refine wpMix_step rfl (fun K hK => ?_); go_simp; (try go_bits); with_reducible refine hK _ ?_; clear hK K)
  refine wpMix_loudW _ rfl rfl ?_
  have HB0 := Lib.hid hS1.size
  go_wp2_with fail
  refine (cp _ hS1.grown).mono ?_
  rintro e w3 ⟨v, rfl, ho, hg⟩
  have hS2 := hS1.madeR ho hg
  have HBZ := Lib.hid hg.size
  clear hg ho hS1
  clear cp
  go_wp2_with fail
  refine wpMix_next' (fun _ => hS2.sub (List.nil_sublist _)) ?_
  refine wpMix_loudW _ rfl rfl ?_
  go_wp2_with fail
  refine (cr _ hS2.grown).mono ?_
  rintro e w4 ⟨rfl, hg⟩
  have hS3 := hS2.call hg
  have HBA := Lib.hid (Nat.le_trans HBZ.out hg.size)
  clear hg hS2
  go_wp2_with fail
  refine wpMix_next' (fun _ => hS3.sub (List.nil_sublist _)) ?_
  refine wpMix_loudW _ rfl rfl ?_
  go_wp2_with (refine wp_built1 rfl 31 (.tmp 44) rfl 27 Try.underlying31 32 info_zd (by omega) (by omega) (c8 D) (by rw [c8_length]; exact HD.out) rfl ?_)
  intro w7 hr hg
  have hS4 := hS3.new hr hg
  have HBB := Lib.hid (Nat.le_trans HBA.out hg.size)
  clear hS3 hr hg
  go_wp2_with fail
  refine wpMix_next' (fun _ => hS4.sub (List.nil_sublist _)) ?_
  refine wpMix_loudW _ rfl rfl ?_
  have hS4base := HBB.out
  go_wp2_with (refine wp_appR rfl (.tmp 40) (.tmp 45) 31 rfl 27 Try.underlying31 info_rd P (P ++ [D]) rfl (hS4.rows 1 rfl) _ 1 1 [D] rfl HAD.out (by simpa using src_row (hS4.row 0 rfl)) rfl rfl (by have := HP.out; simp; omega) hS4base ?_)
  intro v' w8 ho hg hv
  have hS5 := hS4.appendR 1 rfl ho hg (by first | exact hv | simpa using hv)
  clear hS4 ho hg hv
  go_wp2_with fail
  refine wpMix_next' (fun _ => hS5.sub (List.nil_sublist _)) ?_
  refine wpMix_loudW _ rfl rfl ?_
  go_wp2_with fail
  refine wpMix_next' (fun _ => hS5.sub (List.nil_sublist _)) ?_
  unfold wpMix
  go_wp2
  go_ret
  exact ⟨_, rfl, (hS5.rows 1 rfl).mono HB0.out, hS5.grown⟩

theorem proof_any : ∀ (k : Nat) (A : Option Addr) (c : Nat) (L : List (List UInt8)) (m : Nat) (whole : Bool) (w : World), L.length ≤ k → Rows32 w A c L → c ≤ 9223372036854775807 → L.length ≤ 4398046510000 → 1 ≤ m → m ≤ L.length →
    Calls Try.prog 55 #[.slice A L.length c, .int .i64 (m : Int), .bool whole] w fun e w' => ∃ v, e = .returned v ∧ OwnsR w' w.heap.size 27 v (partL L m whole) ∧ w.grownBy w' none := by
  intro k
  induction k with
  | zero => intro A c L m whole w hk hL hc hlm h1 h2; omega
  | succ k ih =>
    intro A c L m whole w hk hL hc hlm h1 h2
    by_cases hb : L.length < 2 ∨ m = L.length
    · rw [partL_base hb]
      have hmn : m = L.length := by omega
      cases whole with
      | true => exact proof_whole A c L.length m w hmn
      | false => exact proof_root A c L.length m (rootL L) w (Lib.hid (rootL_length _ hL.all)) hmn (fun W hg => root_any _ A c L W (Nat.le_refl _) (hL.keep hg) hc)
    · have h22 : 2 ≤ L.length := by omega
      have hlt := half_lt h22
      have hp := half_pos L.length
      have hle := hL.le
      have hto := hL.take (half L.length) (by omega)
      have hfr := hL.drop (half L.length) (by omega)
      have l1 : (L.take (half L.length)).length = half L.length := by simp; omega
      have l2 : (L.drop (half L.length)).length = L.length - half L.length := by simp
      have hsp := fun W => split_any L.length W h22 (by omega)
      have hsT := fun W => run_to32 Try.underlying31 size_d A L.length c (half L.length) (by omega) W
      have hsF := fun W => run_from32 Try.underlying31 size_d A L.length c (half L.length) (by omega) hle W
      by_cases hm : m ≤ half L.length
      · rw [partL_left hb hm]
        refine proof_left A _ c L.length (half L.length) m (partL (L.take (half L.length)) m whole) (rootL (L.drop (half L.length))) whole w (Lib.hid ?_) (Lib.hid (rootL_length _ hfr.all)) (by omega) (by omega) (by omega) (by omega) (by omega) hsp hsT hsF (fun W hg => ?_) (fun W hg => ?_) (by omega) hm
        · have := (partL_spec _ (L.take (half L.length)) m whole (Nat.le_refl _) (by omega) hto.all).2
          rw [l1] at this; omega
        · have := ih A c (L.take (half L.length)) m whole W (by omega) (hto.keep hg) hc (by omega) h1 (by omega)
          rw [l1] at this
          exact this
        · have := root_any _ _ _ (L.drop (half L.length)) W (Nat.le_refl _) (hfr.keep hg) (by omega)
          rw [l2] at this
          exact this
      · rw [partL_right hb hm]
        refine proof_right A _ c L.length (half L.length) m (partL (L.drop (half L.length)) (m - half L.length) false) (rootL (L.take (half L.length))) whole w (Lib.hid ?_) (Lib.hid (rootL_length _ hto.all)) (by omega) (by omega) (by omega) (by omega) (by omega) hsp hsT hsF (fun W hg => ?_) (fun W hg => ?_) (by omega) hm
        · have := (partL_spec _ (L.drop (half L.length)) (m - half L.length) false (Nat.le_refl _) (by omega) hfr.all).2
          rw [l2] at this; omega
        · have := ih _ _ (L.drop (half L.length)) (m - half L.length) false W (by omega) (hfr.keep hg) (by omega) (by omega) (by omega) (by omega)
          rw [l2, show ((m - half L.length : Nat) : Int) = (m : Int) - (half L.length : Int) by omega] at this
          exact this
        · have := root_any _ A c (L.take (half L.length)) W (Nat.le_refl _) (hto.keep hg) hc
          rw [l1] at this
          exact this

set_option maxRecDepth 100000 in
set_option maxHeartbeats 4000000 in
theorem rpart_whole (A : Option Addr) (c n m : Nat) (w : World) (hn : m = n) :
    Calls Try.prog 53 #[.slice A n c, .int .i64 (m : Int), .bool true] w fun e w' => ∃ v, e = .returned v ∧ OwnsR w' w.heap.size 26 v [] ∧ w.grownBy w' none := by
  subst hn
  go_enter Try.func53, Try.ntmps53
  go_wp2
  go_ret
  exact ⟨_, rfl, ⟨L32.nil, World.ownsRow_nil w _ _ 32⟩, grownBy_refl _ _⟩
set_option maxRecDepth 100000 in
set_option maxHeartbeats 4000000 in
theorem rpart_root (A : Option Addr) (c n m : Nat) (R : List UInt8) (w : World) (HR : Hid (R.length = 32)) (hn : m = n) (cr' : ∀ W, w.grownBy W none → Calls Try.prog 19 #[.slice A n c] W fun e w' => e = .returned (.agg (c8 R).toArray) ∧ W.grownBy w' none) :
    Calls Try.prog 53 #[.slice A n c, .int .i64 (m : Int), .bool false] w fun e w' => ∃ v, e = .returned v ∧ OwnsR w' w.heap.size 26 v [R] ∧ w.grownBy w' none := by
  subst hn
  have hS0 := Own.start w
  go_enter Try.func53, Try.ntmps53
  go_wp2_with fail
  refine (cr' _ hS0.grown).mono ?_
  rintro e w4 ⟨rfl, hg⟩
  have hS3 := hS0.call hg
  have HBA := Lib.hid hg.size
  clear hg hS0
  go_wp2_with (refine wp_built1 rfl 22 (.tmp 14) rfl 26 Try.underlying22 32 info_za (by omega) (by omega) (c8 R) (by rw [c8_length]; exact HR.out) rfl ?_)
  intro w7 hr hg
  have hS4 := hS3.new hr hg
  clear hS3 hr hg
  go_wp2
  go_ret
  exact ⟨_, rfl, ownsR_row (hS4.row 0 rfl) HR.out _ HBA.out, hS4.grown⟩

set_option maxRecDepth 100000 in
set_option maxHeartbeats 4000000 in
theorem rpart_left (A A' : Option Addr) (c n h m : Nat) (P : List (List UInt8)) (D : List UInt8) (whole : Bool) (w : World) (HP : Hid (P.length ≤ 4398046511000)) (HD : Hid (D.length = 32)) (n2 : (2 : Int) ≤ (n : Int)) (n3 : (n : Int) ≤ 9223372036854775807) (h0 : (0 : Int) ≤ (h : Int)) (m0 : (1 : Int) ≤ (m : Int)) (mn : (m : Int) < (n : Int))
    (cs : ∀ W, Calls Try.prog 47 #[.int .i64 (n : Int)] W fun e w' => e = .returned (.int .i64 (h : Int)) ∧ w' = W)
    (hto : ∀ W, (Instr.slice 22 (.slice A n c) none (some (.int .i64 (h : Int))) none).run Try.prog W = .ok (.slice A h c) W)
    (hfr : ∀ W, (Instr.slice 22 (.slice A n c) (some (.int .i64 (h : Int))) none none).run Try.prog W = .ok (.slice A' (n - h) (c - h)) W)
    (cp : ∀ W, w.grownBy W none → Calls Try.prog 53 #[.slice A h c, .int .i64 (m : Int), .bool whole] W fun e w' => ∃ v, e = .returned v ∧ OwnsR w' W.heap.size 26 v P ∧ W.grownBy w' none)
    (cr : ∀ W, w.grownBy W none → Calls Try.prog 19 #[.slice A' (n - h) (c - h)] W fun e w' => e = .returned (.agg (c8 D).toArray) ∧ W.grownBy w' none) (hm : (m : Int) ≤ (h : Int)) (hm' : m ≤ h) :
    Calls Try.prog 53 #[.slice A n c, .int .i64 (m : Int), .bool whole] w fun e w' => ∃ v, e = .returned v ∧ OwnsR w' w.heap.size 26 v (P ++ [D]) ∧ w.grownBy w' none := by
  have HAD := Lib.hid (show L32 [D] from fun y hy => by rw [List.mem_singleton.1 hy]; exact HD.out)
  have t1 : decide ((m : Int) = (n : Int)) = false := by simp; omega
  have t2 : ((m : Int) == (n : Int)) = false := by simp; omega
  have t3 : ¬ m = n := by omega
  have t4 : decide ((m : Int) ≤ (h : Int)) = true := by simp; omega
  have t5 : decide (m ≤ h) = true := by simp; omega
  have t6 : (m : Int) ≤ 9223372036854775807 := by omega
  have hS0 := Own.start w
  go_enter Try.func53, Try.ntmps53
  go_wp2_with fail
  refine (cs _).mono ?_
  rintro e w2 ⟨rfl, rfl⟩
  go_wp2_with fail
  have hS1 := hS0.drew
  clear hS0
  refine wp_region_mixC (fun W => Own w2 W []) (fun _ => true) [(0, true), (1, true), (2, true), (3, true), (4, true), (6, true), (7, true), (8, true), (5, false), (9, false), (10, false), (11, false), (12, false)] (by kernel_rfl) (by kernel_rfl) (hS1.sub (List.nil_sublist _)) ?_
  iterate 8 (refine wpMix_step rfl (fun K hK => ?_); go_simp; (try go_bits); with_reducible refine hK _ ?_; clear hK K)
  refine wpMix_loudW _ rfl rfl ?_
  have HB0 := Lib.hid hS1.size
  go_wp2_with fail
  refine (cp _ hS1.grown).mono ?_
  rintro e w3 ⟨v, rfl, ho, hg⟩
  have hS2 := hS1.madeR ho hg
  have HBZ := Lib.hid hg.size
  clear hg ho hS1
  clear cp
  go_wp2_with fail
  refine wpMix_next' (fun _ => hS2.sub (List.nil_sublist _)) ?_
  refine wpMix_loudW _ rfl rfl ?_
  go_wp2_with fail
  refine (cr _ hS2.grown).mono ?_
  rintro e w4 ⟨rfl, hg⟩
  have hS3 := hS2.call hg
  have HBA := Lib.hid (Nat.le_trans HBZ.out hg.size)
  clear hg hS2
  go_wp2_with fail
  refine wpMix_next' (fun _ => hS3.sub (List.nil_sublist _)) ?_
  refine wpMix_loudW _ rfl rfl ?_
  go_wp2_with (refine wp_built1 rfl 22 (.tmp 31) rfl 26 Try.underlying22 32 info_za (by omega) (by omega) (c8 D) (by rw [c8_length]; exact HD.out) rfl ?_)
  intro w7 hr hg
  have hS4 := hS3.new hr hg
  have HBB := Lib.hid (Nat.le_trans HBA.out hg.size)
  clear hS3 hr hg
  go_wp2_with fail
  refine wpMix_next' (fun _ => hS4.sub (List.nil_sublist _)) ?_
  refine wpMix_loudW _ rfl rfl ?_
  have hS4base := HBB.out
  go_wp2_with (refine wp_appR rfl (.tmp 27) (.tmp 32) 22 rfl 26 Try.underlying22 info_ra P (P ++ [D]) rfl (hS4.rows 1 rfl) _ 1 1 [D] rfl HAD.out (by simpa using src_row (hS4.row 0 rfl)) rfl rfl (by have := HP.out; simp; omega) hS4base ?_)
  intro v' w8 ho hg hv
  have hS5 := hS4.appendR 1 rfl ho hg (by first | exact hv | simpa using hv)
  clear hS4 ho hg hv
  go_wp2_with fail
  refine wpMix_next' (fun _ => hS5.sub (List.nil_sublist _)) ?_
  refine wpMix_loudW _ rfl rfl ?_
  go_wp2_with fail
  refine wpMix_next' (fun _ => hS5.sub (List.nil_sublist _)) ?_
  unfold wpMix
  go_wp2
  go_ret
  exact ⟨_, rfl, (hS5.rows 1 rfl).mono HB0.out, hS5.grown⟩

set_option maxRecDepth 100000 in
set_option maxHeartbeats 4000000 in
theorem rpart_right (A A' : Option Addr) (c n h m : Nat) (P : List (List UInt8)) (D : List UInt8) (whole : Bool) (w : World) (HP : Hid (P.length ≤ 4398046511000)) (HD : Hid (D.length = 32)) (n2 : (2 : Int) ≤ (n : Int)) (n3 : (n : Int) ≤ 9223372036854775807) (h0 : (0 : Int) ≤ (h : Int)) (m0 : (1 : Int) ≤ (m : Int)) (mn : (m : Int) < (n : Int))
    (cs : ∀ W, Calls Try.prog 47 #[.int .i64 (n : Int)] W fun e w' => e = .returned (.int .i64 (h : Int)) ∧ w' = W)
    (hto : ∀ W, (Instr.slice 22 (.slice A n c) none (some (.int .i64 (h : Int))) none).run Try.prog W = .ok (.slice A h c) W)
    (hfr : ∀ W, (Instr.slice 22 (.slice A n c) (some (.int .i64 (h : Int))) none none).run Try.prog W = .ok (.slice A' (n - h) (c - h)) W)
    (cp : ∀ W, w.grownBy W none → Calls Try.prog 53 #[.slice A' (n - h) (c - h), .int .i64 ((m : Int) - (h : Int)), .bool false] W fun e w' => ∃ v, e = .returned v ∧ OwnsR w' W.heap.size 26 v P ∧ W.grownBy w' none)
    (cr : ∀ W, w.grownBy W none → Calls Try.prog 19 #[.slice A h c] W fun e w' => e = .returned (.agg (c8 D).toArray) ∧ W.grownBy w' none) (hm : (h : Int) < (m : Int)) (hm' : ¬ m ≤ h) :
    Calls Try.prog 53 #[.slice A n c, .int .i64 (m : Int), .bool whole] w fun e w' => ∃ v, e = .returned v ∧ OwnsR w' w.heap.size 26 v (P ++ [D]) ∧ w.grownBy w' none := by
  have HAD := Lib.hid (show L32 [D] from fun y hy => by rw [List.mem_singleton.1 hy]; exact HD.out)
  have t1 : decide ((m : Int) = (n : Int)) = false := by simp; omega
  have t2 : ((m : Int) == (n : Int)) = false := by simp; omega
  have t3 : ¬ m = n := by omega
  have t4 : decide ((m : Int) ≤ (h : Int)) = false := by simp; omega
  have t5 : decide (m ≤ h) = false := by simp; omega
  have t6 : (m : Int) ≤ 9223372036854775807 := by omega
  have hS0 := Own.start w
  go_enter Try.func53, Try.ntmps53
  go_wp2_with fail
  refine (cs _).mono ?_
  rintro e w2 ⟨rfl, rfl⟩
  go_wp2_with fail
  have hS1 := hS0.drew
  clear hS0
  refine wp_region_mixC (fun W => Own w2 W []) (fun _ => true) [(0, true), (1, true), (2, true), (3, true), (4, true), (5, true), (7, true), (8, true), (9, true), (6, false), (10, false), (11, false), (12, false), (13, false)] (by kernel_rfl) (by kernel_rfl) (hS1.sub (List.nil_sublist _)) ?_
  iterate 9 (refine wpMix_step rfl (fun K hK => ?_); go_simp; (try go_bits); with_reducible refine hK _ ?_; clear hK K)
  refine wpMix_loudW _ rfl rfl ?_
  have HB0 := Lib.hid hS1.size
  go_wp2_with fail
  refine (cp _ hS1.grown).mono ?_
  rintro e w3 ⟨v, rfl, ho, hg⟩
  have hS2 := hS1.madeR ho hg
  have HBZ := Lib.hid hg.size
  clear hg ho hS1
  clear cp
  go_wp2_with fail
  refine wpMix_next' (fun _ => hS2.sub (List.nil_sublist _)) ?_
  refine wpMix_loudW _ rfl rfl ?_
  go_wp2_with fail
  refine (cr _ hS2.grown).mono ?_
  rintro e w4 ⟨rfl, hg⟩
  have hS3 := hS2.call hg
  have HBA := Lib.hid (Nat.le_trans HBZ.out hg.size)
  clear hg hS2
  go_wp2_with fail
  refine wpMix_next' (fun _ => hS3.sub (List.nil_sublist _)) ?_
  refine wpMix_loudW _ rfl rfl ?_
  go_wp2_with (refine wp_built1 rfl 22 (.tmp 44) rfl 26 Try.underlying22 32 info_za (by omega) (by omega) (c8 D) (by rw [c8_length]; exact HD.out) rfl ?_)
  intro w7 hr hg
  have hS4 := hS3.new hr hg
  have HBB := Lib.hid (Nat.le_trans HBA.out hg.size)
  clear hS3 hr hg
  go_wp2_with fail
  refine wpMix_next' (fun _ => hS4.sub (List.nil_sublist _)) ?_
  refine wpMix_loudW _ rfl rfl ?_
  have hS4base := HBB.out
  go_wp2_with (refine wp_appR rfl (.tmp 40) (.tmp 45) 22 rfl 26 Try.underlying22 info_ra P (P ++ [D]) rfl (hS4.rows 1 rfl) _ 1 1 [D] rfl HAD.out (by simpa using src_row (hS4.row 0 rfl)) rfl rfl (by have := HP.out; simp; omega) hS4base ?_)
  intro v' w8 ho hg hv
  have hS5 := hS4.appendR 1 rfl ho hg (by first | exact hv | simpa using hv)
  clear hS4 ho hg hv
  go_wp2_with fail
  refine wpMix_next' (fun _ => hS5.sub (List.nil_sublist _)) ?_
  refine wpMix_loudW _ rfl rfl ?_
  go_wp2_with fail
  refine wpMix_next' (fun _ => hS5.sub (List.nil_sublist _)) ?_
  unfold wpMix
  go_wp2
  go_ret
  exact ⟨_, rfl, (hS5.rows 1 rfl).mono HB0.out, hS5.grown⟩

theorem rpart_any : ∀ (k : Nat) (A : Option Addr) (c : Nat) (L : List (List UInt8)) (m : Nat) (whole : Bool) (w : World), L.length ≤ k → Rows32 w A c L → c ≤ 9223372036854775807 → L.length ≤ 4398046510000 → 1 ≤ m → m ≤ L.length →
    Calls Try.prog 53 #[.slice A L.length c, .int .i64 (m : Int), .bool whole] w fun e w' => ∃ v, e = .returned v ∧ OwnsR w' w.heap.size 26 v (partL L m whole) ∧ w.grownBy w' none := by
  intro k
  induction k with
  | zero => intro A c L m whole w hk hL hc hlm h1 h2; omega
  | succ k ih =>
    intro A c L m whole w hk hL hc hlm h1 h2
    by_cases hb : L.length < 2 ∨ m = L.length
    · rw [partL_base hb]
      have hmn : m = L.length := by omega
      cases whole with
      | true => exact rpart_whole A c L.length m w hmn
      | false => exact rpart_root A c L.length m (rootL L) w (Lib.hid (rootL_length _ hL.all)) hmn (fun W hg => rroot_any _ A c L W (Nat.le_refl _) (hL.keep hg) hc)
    · have h22 : 2 ≤ L.length := by omega
      have hlt := half_lt h22
      have hp := half_pos L.length
      have hle := hL.le
      have hto := hL.take (half L.length) (by omega)
      have hfr := hL.drop (half L.length) (by omega)
      have l1 : (L.take (half L.length)).length = half L.length := by simp; omega
      have l2 : (L.drop (half L.length)).length = L.length - half L.length := by simp
      have hsp := fun W => rhalf_any L.length W h22 (by omega)
      have hsT := fun W => run_to32 Try.underlying22 size_a A L.length c (half L.length) (by omega) W
      have hsF := fun W => run_from32 Try.underlying22 size_a A L.length c (half L.length) (by omega) hle W
      by_cases hm : m ≤ half L.length
      · rw [partL_left hb hm]
        refine rpart_left A _ c L.length (half L.length) m (partL (L.take (half L.length)) m whole) (rootL (L.drop (half L.length))) whole w (Lib.hid ?_) (Lib.hid (rootL_length _ hfr.all)) (by omega) (by omega) (by omega) (by omega) (by omega) hsp hsT hsF (fun W hg => ?_) (fun W hg => ?_) (by omega) hm
        · have := (partL_spec _ (L.take (half L.length)) m whole (Nat.le_refl _) (by omega) hto.all).2
          rw [l1] at this; omega
        · have := ih A c (L.take (half L.length)) m whole W (by omega) (hto.keep hg) hc (by omega) h1 (by omega)
          rw [l1] at this
          exact this
        · have := rroot_any _ _ _ (L.drop (half L.length)) W (Nat.le_refl _) (hfr.keep hg) (by omega)
          rw [l2] at this
          exact this
      · rw [partL_right hb hm]
        refine rpart_right A _ c L.length (half L.length) m (partL (L.drop (half L.length)) (m - half L.length) false) (rootL (L.take (half L.length))) whole w (Lib.hid ?_) (Lib.hid (rootL_length _ hto.all)) (by omega) (by omega) (by omega) (by omega) (by omega) hsp hsT hsF (fun W hg => ?_) (fun W hg => ?_) (by omega) hm
        · have := (partL_spec _ (L.drop (half L.length)) (m - half L.length) false (Nat.le_refl _) (by omega) hfr.all).2
          rw [l2] at this; omega
        · have := ih _ _ (L.drop (half L.length)) (m - half L.length) false W (by omega) (hfr.keep hg) (by omega) (by omega) (by omega) (by omega)
          rw [l2, show ((m - half L.length : Nat) : Int) = (m : Int) - (half L.length : Int) by omega] at this
          exact this
        · have := rroot_any _ A c (L.take (half L.length)) W (Nat.le_refl _) (hto.keep hg) hc
          rw [l1] at this
          exact this
end Go.Proofs.Ytpohjldhbaalbaa
