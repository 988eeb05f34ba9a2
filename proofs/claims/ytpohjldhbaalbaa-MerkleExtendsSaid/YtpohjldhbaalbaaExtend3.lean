/- The contracts of Proof, the program's and the document's, and of Extends. -/
import Derived.Test.YtpohjldhbaalbaaPart3
import Derived.Test.YtpohjldhbaalbaaGrow3
namespace Go.Proofs.Ytpohjldhbaalbaa
set_option linter.unusedVariables false
set_option linter.unusedSimpArgs false
set_option linter.unusedSectionVars false
open Go.RowKit
set_option linter.unusedVariables false

def proofL (L : Way) (m : Nat) : Way := if m = 0 then [] else partL L m true
set_option maxRecDepth 100000 in
set_option maxHeartbeats 4000000 in
theorem proofx_some (A : Option Addr) (c n m : Nat) (P : Way) (w : World) (m0 : (1 : Int) ≤ (m : Int)) (mn : (m : Int) ≤ (n : Int))
    (cp : Calls Try.prog 55 #[.slice A n c, .int .i64 (m : Int), .bool true] w fun e w' => ∃ v, e = .returned v ∧ OwnsR w' w.heap.size 27 v P ∧ w.grownBy w' none) :
    Calls Try.prog 38 #[.slice A n c, .int .i64 (m : Int)] w fun e w' => ∃ v, e = .returned (.tuple #[v, .int .i64 0]) ∧ OwnsR w' w.heap.size 27 v P ∧ w.grownBy w' none := by
  have t1 : decide ((m : Int) < 0) = false := by simp
  have t2 : decide ((n : Int) < (m : Int)) = false := by simp; omega
  have t3 : decide (n < m) = false := by simp; omega
  have t4 : decide ((m : Int) = 0) = false := by simp; omega
  have t5 : ((m : Int) == 0) = false := by simp; omega
  have t6 : ¬ m = 0 := by omega
  go_enter Try.func38, Try.ntmps38
  go_wp2_with fail
  refine cp.mono ?_
  rintro e w' ⟨v, rfl, ho, hg⟩
  go_wp2
  refine bodyPost_ret (results_tmp2 rfl _ _ _) rfl ?_
  exact ⟨v, rfl, ho, hg⟩
set_option maxRecDepth 100000 in
set_option maxHeartbeats 4000000 in
theorem proofx_zero (A : Option Addr) (c n : Nat) (w : World) :
    Calls Try.prog 38 #[.slice A n c, .int .i64 0] w fun e w' => ∃ v, e = .returned (.tuple #[v, .int .i64 0]) ∧ OwnsR w' w.heap.size 27 v [] ∧ w.grownBy w' none := by
  have t2 : decide ((n : Int) < 0) = false := by simp
  go_enter Try.func38, Try.ntmps38
  go_wp2
  refine bodyPost_ret (results_tmp2 rfl _ _ _) rfl ?_
  exact ⟨_, rfl, ⟨L32.nil, World.ownsRow_nil w _ _ 32⟩, grownBy_refl _ _⟩
set_option maxRecDepth 100000 in
set_option maxHeartbeats 4000000 in
theorem proofx_bad (A : Option Addr) (c n : Nat) (m : Int) (w : World) (hm : m < 0 ∨ (0 ≤ m ∧ (n : Int) < m)) :
    Calls Try.prog 38 #[.slice A n c, .int .i64 m] w fun e w' => e = .returned (.tuple #[.slice none 0 0, .int .i64 1]) ∧ w.grownBy w' none := by
  rcases hm with hm | ⟨h0, hm⟩
  · have t1 : decide (m < 0) = true := by simp; omega
    go_enter Try.func38, Try.ntmps38
    go_wp2
    refine bodyPost_ret (results_tmp2 rfl _ _ _) rfl ?_
    exact ⟨rfl, grownBy_refl _ _⟩
  · have t1 : decide (m < 0) = false := by simp; omega
    have t2 : decide ((n : Int) < m) = true := by simp; omega
    go_enter Try.func38, Try.ntmps38
    go_wp2
    refine bodyPost_ret (results_tmp2 rfl _ _ _) rfl ?_
    exact ⟨rfl, grownBy_refl _ _⟩
theorem proofx_any (A : Option Addr) (c : Nat) (L : Way) (m : Nat) (w : World) (hL : Rows32 w A c L) (hc : c ≤ 9223372036854775807) (hlm : L.length ≤ 4398046510000) (hm : m ≤ L.length) :
    Calls Try.prog 38 #[.slice A L.length c, .int .i64 (m : Int)] w fun e w' => ∃ v, e = .returned (.tuple #[v, .int .i64 0]) ∧ OwnsR w' w.heap.size 27 v (proofL L m) ∧ w.grownBy w' none := by
  unfold proofL
  by_cases h0 : m = 0
  · rw [if_pos h0, h0]; exact proofx_zero A c L.length w
  · rw [if_neg h0]
    exact proofx_some A c L.length m _ w (by omega) (by omega) (proof_any _ A c L m true w (Nat.le_refl _) hL hc hlm (by omega) hm)
set_option maxRecDepth 100000 in
set_option maxHeartbeats 4000000 in
theorem rproof_some (A : Option Addr) (c n m : Nat) (P : Way) (w : World) (m0 : (1 : Int) ≤ (m : Int))
    (cp : Calls Try.prog 53 #[.slice A n c, .int .i64 (m : Int), .bool true] w fun e w' => ∃ v, e = .returned v ∧ OwnsR w' w.heap.size 26 v P ∧ w.grownBy w' none) :
    Calls Try.prog 31 #[.slice A n c, .int .i64 (m : Int)] w fun e w' => ∃ v, e = .returned v ∧ OwnsR w' w.heap.size 26 v P ∧ w.grownBy w' none := by
  have t4 : decide ((m : Int) = 0) = false := by simp; omega
  have t5 : ((m : Int) == 0) = false := by simp; omega
  have t6 : ¬ m = 0 := by omega
  go_enter Try.func31, Try.ntmps31
  go_wp2_with fail
  refine cp.mono ?_
  rintro e w' ⟨v, rfl, ho, hg⟩
  go_wp2
  go_ret
  exact ⟨v, rfl, ho, hg⟩
set_option maxRecDepth 100000 in
set_option maxHeartbeats 4000000 in
theorem rproof_zero (A : Option Addr) (c n : Nat) (w : World) :
    Calls Try.prog 31 #[.slice A n c, .int .i64 0] w fun e w' => ∃ v, e = .returned v ∧ OwnsR w' w.heap.size 26 v [] ∧ w.grownBy w' none := by
  go_enter Try.func31, Try.ntmps31
  go_wp2
  go_ret
  exact ⟨_, rfl, ⟨L32.nil, World.ownsRow_nil w _ _ 32⟩, grownBy_refl _ _⟩
theorem rproof_any (A : Option Addr) (c : Nat) (L : Way) (m : Nat) (w : World) (hL : Rows32 w A c L) (hc : c ≤ 9223372036854775807) (hlm : L.length ≤ 4398046510000) (hm : m ≤ L.length) :
    Calls Try.prog 31 #[.slice A L.length c, .int .i64 (m : Int)] w fun e w' => ∃ v, e = .returned v ∧ OwnsR w' w.heap.size 26 v (proofL L m) ∧ w.grownBy w' none := by
  unfold proofL
  by_cases h0 : m = 0
  · rw [if_pos h0, h0]; exact rproof_zero A c L.length w
  · rw [if_neg h0]
    exact rproof_some A c L.length m _ w (by omega) (rpart_any _ A c L m true w (Nat.le_refl _) hL hc hlm (by omega) hm)

set_option maxRecDepth 100000 in
set_option maxHeartbeats 8000000 in
theorem ext_core (w : World) (m n q c : Nat) (old root a b : List UInt8) (A : Option Addr) (HO : Hid (old.length = 32)) (HR : Hid (root.length = 32)) (HA : Hid (a.length = 32)) (HB : Hid (b.length = 32)) (m0 : (1 : Int) ≤ (m : Int)) (mn : (m : Int) ≤ (n : Int)) (n2 : (n : Int) ≤ 9223372036854775807) (ok : Bool) (B : Option Addr) (k e : Nat) (R : Bool)
    (hbk : (ok = false ∧ R = false) ∨ (ok = true ∧ 0 < k ∧ R = false) ∨ (ok = true ∧ k = 0 ∧ R = (decide (a = old) && decide (b = root))))
    (cg : ∀ W, w.grownBy W none → Calls Try.prog 52 #[.agg (c8 old).toArray, .int .i64 (m : Int), .int .i64 (n : Int), .bool true, .slice A q c] W fun e2 w' => e2 = .returned (.tuple #[.agg (c8 a).toArray, .agg (c8 b).toArray, .slice B k e, .bool ok]) ∧ W.grownBy w' none)
    (eA : ∀ W : World, (Op.equalIn 10000 27 (.agg (c8 a).toArray) (.agg (c8 old).toArray)).run Try.prog W = .ok (decide (a = old)) W)
    (eB : ∀ W : World, (Op.equalIn 10000 27 (.agg (c8 b).toArray) (.agg (c8 root).toArray)).run Try.prog W = .ok (decide (b = root)) W) :
    Calls Try.prog 29 #[.agg (c8 old).toArray, .int .i64 (m : Int), .agg (c8 root).toArray, .int .i64 (n : Int), .slice A q c] w fun e' w' => e' = .returned (.bool R) ∧ w.grownBy w' none := by
  have Iold := Lib.hid (info_dg old HO.out)
  have Fold := Lib.hid (show 0 + (c8 old).length ≤ zd.length by rw [c8_length, HO.out]; decide)
  have Eold := Lib.hid (show (c8 old).length = zd.length by rw [c8_length, HO.out]; decide)
  have Iroot := Lib.hid (info_dg root HR.out)
  have Froot := Lib.hid (show 0 + (c8 root).length ≤ zd.length by rw [c8_length, HR.out]; decide)
  have Eroot := Lib.hid (show (c8 root).length = zd.length by rw [c8_length, HR.out]; decide)
  have Ia := Lib.hid (info_dg a HA.out)
  have Fa := Lib.hid (show 0 + (c8 a).length ≤ zd.length by rw [c8_length, HA.out]; decide)
  have Ea := Lib.hid (show (c8 a).length = zd.length by rw [c8_length, HA.out]; decide)
  have Ib := Lib.hid (info_dg b HB.out)
  have Fb := Lib.hid (show 0 + (c8 b).length ≤ zd.length by rw [c8_length, HB.out]; decide)
  have Eb := Lib.hid (show (c8 b).length = zd.length by rw [c8_length, HB.out]; decide)
  have t1 : decide ((m : Int) < 0) = false := by simp
  have t2 : decide ((n : Int) < (m : Int)) = false := by simp; omega
  have t3 : decide (n < m) = false := by simp; omega
  have t4 : decide ((m : Int) = 0) = false := by simp; omega
  have t5 : ((m : Int) == 0) = false := by simp; omega
  have t6 : ¬ m = 0 := by omega
  obtain ⟨qa, hqa⟩ : ∃ qa, qa = decide (a = old) := ⟨_, rfl⟩
  obtain ⟨qb, hqb⟩ : ∃ qb, qb = decide (b = root) := ⟨_, rfl⟩
  rw [← hqa] at eA hbk
  rw [← hqb] at eB hbk
  have HBK := Lib.hid hbk
  clear hqa hqb hbk
  go_enter Try.func29, Try.ntmps29
  go_wp2_with (refine wp_box (o := ⟨some 5, _, _, _, _, _⟩) rfl 27 (.tmp 0) rfl (c8 old) rfl ?_)
  intro w1 hr hg hz
  clear hz
  have hS1 := ((Own.start w)).new hr hg
  clear hr hg
  go_wp2_with (refine wp_box (o := ⟨some 7, _, _, _, _, _⟩) rfl 27 (.tmp 2) rfl (c8 root) rfl ?_)
  intro w2 hr hg hz
  clear hz
  have hS2 := (hS1).new hr hg
  clear hr hg
  clear hS1
  go_wp2_with (first | (refine wp_load rfl 27 (.tmp 5) rfl Try.underlying27 rfl ⟨w.heap.size, 0, none⟩ rfl (c8 old) Iold.out (row_all (hS2.row 1 rfl)) ?_))
  refine (cg _ hS2.grown).mono ?_
  rintro e' w3 ⟨rfl, hg⟩
  have hS3 := hS2.call hg
  clear hg hS2 cg
  go_wp2_with (refine wp_alloc (o := ⟨some 11, _, _, _, _, _⟩) rfl 27 rfl _ alloc_d ?_)
  intro w4 hr hg hz
  clear hz
  have hS4 := hS3.new hr hg
  clear hr hg
  go_wp2_with (refine wp_alloc (o := ⟨some 12, _, _, _, _, _⟩) rfl 27 rfl _ alloc_d ?_)
  intro w5 hr hg hz
  clear hz
  have hS5 := hS4.new hr hg
  clear hr hg
  clear hS3 hS4
  go_wp2_with (refine wp_storeAgg rfl 27 (.tmp 11) (.tmp 49) rfl w3.heap.size 0 27 zd (c8 a) rfl rfl (hS5.row 1 rfl) Ia.out Fa.out (one8 _) ?_)
  intro w6 hr hg hz
  clear hz
  rw [splice_all Ea.out] at hr
  have hS6 := hS5.setRow 1 rfl hr hg
  clear hr hg hS5
  go_wp2_with (refine wp_storeAgg rfl 27 (.tmp 12) (.tmp 50) rfl w4.heap.size 0 27 zd (c8 b) rfl rfl (hS6.row 0 rfl) Ib.out Fb.out (one8 _) ?_)
  intro w7 hr hg hz
  clear hz
  rw [splice_all Eb.out] at hr
  have hS7 := hS6.setRow 0 rfl hr hg
  clear hr hg hS6
  rcases HBK.out with ⟨hb, hR⟩ | ⟨hb, hk, hR⟩ | ⟨hb, hk, hR⟩
  · subst hb
    have HRR := Lib.hid hR
    clear hR HBK
    go_wp2_with fail
    go_ret
    exact ⟨by rw [HRR.out]; rfl, hS7.grown⟩
  · subst hb
    have HRR := Lib.hid hR
    have k1 : (0 : Int) < (k : Int) := by omega
    have k2 : decide ((k : Int) = 0) = false := by simp; omega
    have k3 : ¬ k = 0 := by omega
    have k4 : ((k : Int) == 0) = false := by simp; omega
    clear hR HBK hk
    go_wp2_with fail
    go_ret
    exact ⟨by rw [HRR.out]; rfl, hS7.grown⟩
  · subst hb
    subst hk
    have HRR := Lib.hid hR
    clear hR HBK
    cases qa
    · skip
      go_wp2_with (first | (refine wp_load rfl 27 (.tmp 11) rfl Try.underlying27 rfl ⟨w3.heap.size, 0, none⟩ rfl (c8 a) Ia.out (row_all (hS7.row 1 rfl)) ?_) | (refine wp_load rfl 27 (.tmp 5) rfl Try.underlying27 rfl ⟨w.heap.size, 0, none⟩ rfl (c8 old) Iold.out (row_all (hS7.row 3 rfl)) ?_) | (refine wp_load rfl 27 (.tmp 12) rfl Try.underlying27 rfl ⟨w4.heap.size, 0, none⟩ rfl (c8 b) Ib.out (row_all (hS7.row 0 rfl)) ?_) | (refine wp_load rfl 27 (.tmp 7) rfl Try.underlying27 rfl ⟨w1.heap.size, 0, none⟩ rfl (c8 root) Iroot.out (row_all (hS7.row 2 rfl)) ?_))
      go_ret
      exact ⟨by rw [HRR.out]; rfl, hS7.grown⟩
    · skip
      go_wp2_with (first | (refine wp_load rfl 27 (.tmp 11) rfl Try.underlying27 rfl ⟨w3.heap.size, 0, none⟩ rfl (c8 a) Ia.out (row_all (hS7.row 1 rfl)) ?_) | (refine wp_load rfl 27 (.tmp 5) rfl Try.underlying27 rfl ⟨w.heap.size, 0, none⟩ rfl (c8 old) Iold.out (row_all (hS7.row 3 rfl)) ?_) | (refine wp_load rfl 27 (.tmp 12) rfl Try.underlying27 rfl ⟨w4.heap.size, 0, none⟩ rfl (c8 b) Ib.out (row_all (hS7.row 0 rfl)) ?_) | (refine wp_load rfl 27 (.tmp 7) rfl Try.underlying27 rfl ⟨w1.heap.size, 0, none⟩ rfl (c8 root) Iroot.out (row_all (hS7.row 2 rfl)) ?_))
      go_ret
      exact ⟨by rw [HRR.out]; rfl, hS7.grown⟩
theorem ext_main (m n : Nat) (old root : List UInt8) (A : Option Addr) (c : Nat) (way : Way) (w : World) (ho : old.length = 32) (hr : root.length = 32) (hw : Rows32 w A c way) (hc : c ≤ 9223372036854775807) (hn : n ≤ 9223372036854775807) (h1 : 1 ≤ m) (h2 : m ≤ n) :
    Calls Try.prog 29 #[.agg (c8 old).toArray, .int .i64 (m : Int), .agg (c8 root).toArray, .int .i64 (n : Int), .slice A way.length c] w fun e w' => e = .returned (.bool (extL old m root n way)) ∧ w.grownBy w' none := by
  have hg := fun W (hg : w.grownBy W none) => grow_any n m n old true A c way w W (Nat.le_refl _) h1 h2 hn ho hg hw hc
  have hlen := growO_len n m n old true way (Nat.le_refl _) ho hw.all
  unfold extL
  rw [if_neg (by omega)]
  have hz : zeros32.length = 32 := by simp [zeros32]
  match hoo : growO old m n true way with
  | none =>
    rw [hoo] at hg
    exact ext_core w m n way.length c old root zeros32 zeros32 A (Lib.hid ho) (Lib.hid hr) (Lib.hid hz) (Lib.hid hz) (by omega) (by omega) (by omega) false none 0 0 _ (.inl ⟨rfl, by simp⟩) hg (fun W => eq_dg W _ _ hz ho) (fun W => eq_dg W _ _ hz hr)
  | some (x, y, []) =>
    rw [hoo] at hg
    obtain ⟨hx, hy, _⟩ := hlen x y [] hoo
    refine ext_core w m n way.length c old root x y A (Lib.hid ho) (Lib.hid hr) (Lib.hid hx) (Lib.hid hy) (by omega) (by omega) (by omega) true _ 0 _ _ (.inr (.inr ⟨rfl, rfl, ?_⟩)) hg (fun W => eq_dg W _ _ hx ho) (fun W => eq_dg W _ _ hy hr)
    have e : (some (x, y, ([] : Way)) = some (old, root, [])) ↔ (x = old ∧ y = root) := by simp
    rw [← Bool.decide_and]
    exact decide_eq_decide.2 e
  | some (x, y, z :: r) =>
    rw [hoo] at hg
    obtain ⟨hx, hy, _⟩ := hlen x y (z :: r) hoo
    exact ext_core w m n way.length c old root x y A (Lib.hid ho) (Lib.hid hr) (Lib.hid hx) (Lib.hid hy) (by omega) (by omega) (by omega) true _ (z :: r).length _ _ (.inr (.inl ⟨rfl, by simp, by simp⟩)) hg (fun W => eq_dg W _ _ hx ho) (fun W => eq_dg W _ _ hy hr)
set_option maxRecDepth 100000 in
set_option maxHeartbeats 8000000 in
theorem ext_zero (w : World) (n c : Nat) (old root : List UInt8) (A : Option Addr) (HO : Hid (old.length = 32)) (HR : Hid (root.length = 32)) (hcase : 0 < n ∨ (n = 0 ∧ root = old))
    (cs : ∀ W, Calls Try.prog 44 #[.slice none 0 0] W fun e w' => e = .returned (.agg (c8 old).toArray) ∧ W.grownBy w' none)
    (eO : ∀ W : World, (Op.equalIn 10000 27 (.agg (c8 old).toArray) (.agg (c8 old).toArray)).run Try.prog W = .ok true W) :
    Calls Try.prog 29 #[.agg (c8 old).toArray, .int .i64 0, .agg (c8 root).toArray, .int .i64 (n : Int), .slice A 0 c] w fun e' w' => e' = .returned (.bool true) ∧ w.grownBy w' none := by
  have Iold := Lib.hid (info_dg old HO.out)
  have Iroot := Lib.hid (info_dg root HR.out)
  have t2 : decide ((n : Int) < 0) = false := by simp
  rcases hcase with hn | ⟨hn, hr⟩
  · have n1 : (0 : Int) < (n : Int) := by omega
    have n2 : decide ((0 : Int) < (n : Int)) = true := by simp; omega
    have n3 : decide (0 < n) = true := by simp; omega
    go_enter Try.func29, Try.ntmps29
    go_wp2_with (refine wp_box (o := ⟨some 5, _, _, _, _, _⟩) rfl 27 (.tmp 0) rfl (c8 old) rfl ?_)
    intro w1 hr hg hz
    clear hz
    have hS1 := ((Own.start w)).new hr hg
    clear hr hg
    go_wp2_with (refine wp_box (o := ⟨some 7, _, _, _, _, _⟩) rfl 27 (.tmp 2) rfl (c8 root) rfl ?_)
    intro w2 hr hg hz
    clear hz
    have hS2 := (hS1).new hr hg
    clear hr hg
    clear hS1
    go_wp2_with fail
    have hS3 := hS2.drew
    clear hS2
    refine wp_region_mixC (fun W => Own w W _) (fun _ => true) [(0, true), (1, true), (2, true), (3, true), (4, true), (5, false), (6, true), (7, true), (8, true), (9, true), (10, true), (11, true), (12, true), (13, true), (14, true), (15, true), (16, true), (17, false)] (by kernel_rfl) (by kernel_rfl) hS3 ?_
    iterate 4 (refine wpMix_step rfl (fun K hK => ?_); go_simp; (try go_bits); with_reducible refine hK _ ?_; clear hK K)
    refine wpMix_pureW (.agg (c8 old).toArray) rfl rfl (fun W hW => run_load_op 27 (.tmp 5) rfl Try.underlying27 rfl ⟨w.heap.size, 0, none⟩ rfl _ Iold.out (row_all (hW.row 1 rfl))) ?_
    refine wpMix_loudW _ rfl rfl ?_
    go_wp2_with fail
    refine (cs _).mono ?_
    rintro e w4 ⟨rfl, hg⟩
    have hS4 := hS3.call hg
    clear hg hS3
    go_wp2_with fail
    refine wpMix_next' (fun _ => hS4) ?_
    iterate 11 (refine wpMix_step rfl (fun K hK => ?_); go_simp; (try go_bits); with_reducible refine hK _ ?_; clear hK K)
    refine wpMix_loudW _ rfl rfl ?_
    go_wp2_with fail
    refine wpMix_next' (fun _ => hS4) ?_
    unfold wpMix
    go_wp2
    go_ret
    exact ⟨rfl, hS4.grown⟩
  · subst hn
    subst hr
    go_enter Try.func29, Try.ntmps29
    go_wp2_with (refine wp_box (o := ⟨some 5, _, _, _, _, _⟩) rfl 27 (.tmp 0) rfl (c8 root) rfl ?_)
    intro w1 hr hg hz
    clear hz
    have hS1 := ((Own.start w)).new hr hg
    clear hr hg
    go_wp2_with (refine wp_box (o := ⟨some 7, _, _, _, _, _⟩) rfl 27 (.tmp 2) rfl (c8 root) rfl ?_)
    intro w2 hr hg hz
    clear hz
    have hS2 := (hS1).new hr hg
    clear hr hg
    clear hS1
    go_wp2_with fail
    have hS3 := hS2.drew
    clear hS2
    refine wp_region_mixC (fun W => Own w W _) (fun _ => true) [(0, true), (1, true), (2, true), (3, true), (4, true), (5, false), (6, true), (7, true), (8, true), (9, true), (10, true), (11, true), (12, true), (13, true), (14, true), (15, true), (16, true), (17, false)] (by kernel_rfl) (by kernel_rfl) hS3 ?_
    iterate 4 (refine wpMix_step rfl (fun K hK => ?_); go_simp; (try go_bits); with_reducible refine hK _ ?_; clear hK K)
    refine wpMix_pureW (.agg (c8 root).toArray) rfl rfl (fun W hW => run_load_op 27 (.tmp 5) rfl Try.underlying27 rfl ⟨w.heap.size, 0, none⟩ rfl _ Iold.out (row_all (hW.row 1 rfl))) ?_
    refine wpMix_loudW _ rfl rfl ?_
    go_wp2_with fail
    refine (cs _).mono ?_
    rintro e w4 ⟨rfl, hg⟩
    have hS4 := hS3.call hg
    clear hg hS3
    go_wp2_with fail
    refine wpMix_next' (fun _ => hS4) ?_
    iterate 6 (refine wpMix_step rfl (fun K hK => ?_); go_simp; (try go_bits); with_reducible refine hK _ ?_; clear hK K)
    refine wpMix_pureW (.agg (c8 root).toArray) rfl rfl (fun W hW => run_load_op 27 (.tmp 7) rfl Try.underlying27 rfl ⟨w1.heap.size, 0, none⟩ rfl _ Iold.out (row_all (hW.row 0 rfl))) ?_
    refine wpMix_pureW (.agg (c8 root).toArray) rfl rfl (fun W hW => run_load_op 27 (.tmp 5) rfl Try.underlying27 rfl ⟨w.heap.size, 0, none⟩ rfl _ Iold.out (row_all (hW.row 1 rfl))) ?_
    iterate 3 (refine wpMix_step rfl (fun K hK => ?_); go_simp; (try go_bits); with_reducible refine hK _ ?_; clear hK K)
    refine wpMix_loudW _ rfl rfl ?_
    go_wp2_with fail
    refine wpMix_next' (fun _ => hS4) ?_
    unfold wpMix
    go_wp2
    go_ret
    exact ⟨rfl, hS4.grown⟩
/-- the proof of a list's own beginning -/
theorem ext_proof (L : Way) (m : Nat) (hm : m ≤ L.length) (h1 : 1 ≤ m) : extL (rootL (L.take m)) m (rootL L) L.length (proofL L m) = true := by
  unfold extL proofL
  rw [if_neg (by omega), if_neg (by omega)]
  have := grow_part _ L m [] (rootL (L.take m)) true (Nat.le_refl _) h1 hm (fun _ => rfl)
  rw [List.append_nil] at this
  exact decide_eq_true this
end Go.Proofs.Ytpohjldhbaalbaa
