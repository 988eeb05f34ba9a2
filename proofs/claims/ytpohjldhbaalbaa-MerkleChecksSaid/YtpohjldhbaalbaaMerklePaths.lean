/- The walk of the law MerklePaths. -/
import Derived.Test.YtpohjldhbaalbaaAwake3
import Derived.Test.YtpohjldhbaalbaaClimb3
namespace Go.Proofs.Ytpohjldhbaalbaa
set_option linter.unusedVariables false
set_option linter.unusedSimpArgs false
set_option linter.unusedSectionVars false
open Go.RowKit
set_option linter.unusedVariables false

theorem ownsR_at {w : World} {base m : Nat} {e : TypeId} {v : Value} {L : List (List UInt8)} (h : OwnsR w base e v L) (hm : L.length = m) : ∃ A c, v = .slice A m c ∧ Rows32 w A c L ∧ c ≤ 9223372036854775807 := by
  subst hm; exact ownsR_open h

set_option maxRecDepth 100000 in
set_option maxHeartbeats 8000000 in
theorem paths_ok (w : World) (A : Option Addr) (n c m q i : Nat) (K Q : Way) (R X : List UInt8) (HM : Hid (K.length = m)) (HQ : Hid (Q.length = q)) (HX : Hid (X.length = 32)) (HXK : Hid (K.getD i [] = X)) (hi : (i : Int) < (m : Int)) (hm : (m : Int) ≤ 70) (HI : Hid (i < K.length))
    (k1 : Calls Try.prog 13 #[.slice A n c, .int .i64 70] w fun e w' => ∃ v, e = .returned v ∧ OwnsR w' w.heap.size 26 v K ∧ w.grownBy w' none)
    (k2 : ∀ A c W, Rows32 W A c K → c ≤ 9223372036854775807 → Calls Try.prog 18 #[.slice A m c] W fun e w' => ∃ v, e = .returned v ∧ OwnsR w' W.heap.size 27 v K ∧ W.grownBy w' none)
    (k3 : ∀ A c W, Rows32 W A c K → c ≤ 9223372036854775807 → Calls Try.prog 20 #[.slice A m c, .int .i64 (i : Int)] W fun e w' => ∃ v, e = .returned (.tuple #[v, .int .i64 0]) ∧ OwnsR w' W.heap.size 27 v Q ∧ W.grownBy w' none)
    (k4 : ∀ A c W, Rows32 W A c Q → c ≤ 9223372036854775807 → Calls Try.prog 22 #[.slice A q c] W fun e w' => ∃ v, e = .returned v ∧ OwnsR w' W.heap.size 26 v Q ∧ W.grownBy w' none)
    (k5 : ∀ A c W, Rows32 W A c K → c ≤ 9223372036854775807 → Calls Try.prog 23 #[.slice A m c, .int .i64 (i : Int)] W fun e w' => ∃ v, e = .returned v ∧ OwnsR w' W.heap.size 26 v Q ∧ W.grownBy w' none)
    (k6 : ∀ A c B d W, Rows32 W A c Q → Rows32 W B d Q → Calls Try.prog 21 #[.slice A q c, .slice B q d] W fun e w' => e = .returned (.bool true) ∧ W.grownBy w' none)
    (k7 : ∀ A c W, Rows32 W A c K → c ≤ 9223372036854775807 → Calls Try.prog 19 #[.slice A m c] W fun e w' => e = .returned (.agg (c8 R).toArray) ∧ W.grownBy w' none)
    (k8 : ∀ A c W, Rows32 W A c Q → c ≤ 9223372036854775807 → Calls Try.prog 24 #[.agg (c8 R).toArray, .int .i64 (m : Int), .int .i64 (i : Int), .agg (c8 X).toArray, .slice A q c] W fun e w' => e = .returned (.bool true) ∧ W.grownBy w' none) :
    Calls Try.prog 4 #[.slice A n c, .int .i64 (i : Int)] w fun e w' => e = .returned (.bool true) ∧ w.grownBy w' none := by
  have hS0 := Own.start w
  have IX := Lib.hid (info_a32 X HX.out)
  have i0 : (0 : Int) ≤ (i : Int) := by omega
  have t1 : decide ((i : Int) < 0) = false := by simp
  have t2 : decide ((m : Int) ≤ (i : Int)) = false := by simp; omega
  have t3 : decide (m ≤ i) = false := by simp; omega
  go_enter Try.func4, Try.ntmps4
  go_wp2_with fail
  refine k1.mono ?_
  rintro e w1 ⟨v, rfl, ho, hg⟩
  obtain ⟨A1, c1, rfl, hR, hc1⟩ := ownsR_at ho HM.out
  have hS1 := hS0.call hg
  have HR := Lib.hid hR
  have HC1 := Lib.hid hc1
  clear hg hS0 ho hR hc1 k1
  have hT := Own.start w1
  go_wp2_with fail
  refine (k2 _ _ _ HR.out HC1.out).mono ?_
  rintro e w2 ⟨v, rfl, ho, hg⟩
  obtain ⟨A2, c2, rfl, hR2, hc2⟩ := ownsR_at ho HM.out
  have hT2 := hT.call hg
  have HR2 := Lib.hid hR2
  have HC2 := Lib.hid hc2
  clear hg hT ho hR2 hc2 k2
  go_wp2_with fail
  refine (k3 _ _ _ HR2.out HC2.out).mono ?_
  rintro e w3 ⟨v, rfl, ho, hg⟩
  obtain ⟨A3, c3, rfl, hR3, hc3⟩ := ownsR_at ho HQ.out
  have hT3 := hT2.call hg
  have HR3 := Lib.hid hR3
  have HC3 := Lib.hid hc3
  clear hg hT2 ho hR3 hc3 k3 HR2 HC2
  go_wp2_with fail
  refine (awake_any _).mono ?_
  rintro e w4 ⟨rfl, hg34⟩
  have hT4 := hT3.call hg34
  clear hT3
  have HG := Lib.hid (hS1.call hT4.grown).grown
  have HK4 := Lib.hid (HR.out.keep hT4.grown)
  have HQ4 := Lib.hid (HR3.out.keep hg34)
  obtain ⟨b, off, hA1, hat⟩ := HK4.out.at_ i HI.out
  subst hA1
  rw [HXK.out] at hat
  have HAT := Lib.hid hat
  clear hS1 hT4 HR HR3 hat hg34
  have hU := Own.start w4
  go_wp2
  have hU1 := hU.drew
  clear hU
  refine wp_region_mixC (fun W => Own w4 W _) (fun _ => true) [(0, true), (1, true), (2, true), (3, true), (5, true), (6, true), (4, false), (7, false), (8, false), (9, true), (10, true), (11, true), (13, true), (14, true), (15, true), (16, true), (17, true), (18, true), (19, true), (20, true), (12, false), (21, false), (22, true), (23, false)] (by kernel_rfl) (by kernel_rfl) hU1 ?_
  iterate 6 (refine wpMix_step rfl (fun K hK => ?_); go_simp; (try go_bits); with_reducible refine hK _ ?_; clear hK K)
  refine wpMix_loudW _ rfl rfl ?_
  go_wp2_with fail
  refine (k4 _ _ _ (HQ4.out.keep hU1.grown) HC3.out).mono ?_
  rintro e w5 ⟨v, rfl, ho, hg⟩
  obtain ⟨A5, c5, rfl, hR5, hc5⟩ := ownsR_at ho HQ.out
  have hU2 := hU1.call hg
  have HR5 := Lib.hid hR5
  clear hg hU1 ho hR5 hc5 k4
  go_wp2_with fail
  refine wpMix_next' (fun _ => hU2) ?_
  refine wpMix_loudW _ rfl rfl ?_
  go_wp2_with fail
  refine (k5 _ _ _ (HK4.out.keep hU2.grown) HC1.out).mono ?_
  rintro e w6 ⟨v, rfl, ho, hg⟩
  obtain ⟨A6, c6, rfl, hR6, hc6⟩ := ownsR_at ho HQ.out
  have hU3 := hU2.call hg
  have HR6 := Lib.hid hR6
  have HR5' := Lib.hid (HR5.out.keep hg)
  clear hg hU2 ho hR6 hc6 k5 HR5
  go_wp2_with fail
  refine wpMix_next' (fun _ => hU3) ?_
  refine wpMix_loudW _ rfl rfl ?_
  go_wp2_with fail
  refine (k6 _ _ _ _ _ HR5'.out HR6.out).mono ?_
  rintro e w7 ⟨rfl, hg⟩
  have hU4 := hU3.call hg
  clear hg hU3
  go_wp2_with fail
  refine wpMix_next' (fun _ => hU4) ?_
  iterate 9 (refine wpMix_step rfl (fun K hK => ?_); go_simp; (try go_bits); with_reducible refine hK _ ?_; clear hK K)
  refine wpMix_pureW (.agg (c8 X).toArray) rfl rfl (fun W hW => run_load_op 26 (.tmp 56) rfl Try.underlying26 rfl ⟨b, off + i * 32, none⟩ rfl _ IX.out (fun j u hu => hW.cell (HAT.out j u hu))) ?_
  iterate 1 (refine wpMix_step rfl (fun K hK => ?_); go_simp; (try go_bits); with_reducible refine hK _ ?_; clear hK K)
  refine wpMix_loudW _ rfl rfl ?_
  go_wp2_with fail
  refine (k7 _ _ _ (HK4.out.keep hU4.grown) HC1.out).mono ?_
  rintro e w8 ⟨rfl, hg⟩
  have hU5 := hU4.call hg
  clear hg hU4
  go_wp2_with fail
  refine wpMix_next' (fun _ => hU5) ?_
  refine wpMix_loudW _ rfl rfl ?_
  go_wp2_with fail
  refine (k8 _ _ _ (HQ4.out.keep hU5.grown) HC3.out).mono ?_
  rintro e w9 ⟨rfl, hg⟩
  have hU6 := hU5.call hg
  clear hg hU5
  go_wp2_with fail
  refine wpMix_next' (fun _ => hU6) ?_
  iterate 1 (refine wpMix_step rfl (fun K hK => ?_); go_simp; (try go_bits); with_reducible refine hK _ ?_; clear hK K)
  refine wpMix_loudW _ rfl rfl ?_
  go_wp2_with fail
  refine wpMix_next' (fun _ => hU6) ?_
  unfold wpMix
  go_wp2
  go_ret
  exact ⟨rfl, grownBy_trans HG.out hU6.grown⟩
set_option maxRecDepth 100000 in
set_option maxHeartbeats 8000000 in
theorem paths_bad (w : World) (A : Option Addr) (n c m : Nat) (i : Int) (K : Way) (HM : Hid (K.length = m)) (hi : i < 0 ∨ (0 ≤ i ∧ (m : Int) ≤ i)) (hm : (m : Int) ≤ 70)
    (k1 : Calls Try.prog 13 #[.slice A n c, .int .i64 70] w fun e w' => ∃ v, e = .returned v ∧ OwnsR w' w.heap.size 26 v K ∧ w.grownBy w' none)
    (k2 : ∀ A c W, Rows32 W A c K → c ≤ 9223372036854775807 → Calls Try.prog 18 #[.slice A m c] W fun e w' => ∃ v, e = .returned v ∧ OwnsR w' W.heap.size 27 v K ∧ W.grownBy w' none) :
    Calls Try.prog 4 #[.slice A n c, .int .i64 i] w fun e w' => e = .returned (.bool true) ∧ w.grownBy w' none := by
  have hS0 := Own.start w
  have k3 := fun A c W => pathx_bad A c m i W hi
  obtain ⟨b1, hb1⟩ : ∃ b1, b1 = decide (i < 0) := ⟨_, rfl⟩
  have HB := Lib.hid (show b1 = false → decide ((m : Int) ≤ i) = true by intro h; rw [hb1] at h; simp at h ⊢; omega)
  have t1 : decide (i < 0) = b1 := hb1.symm
  clear hb1 hi
  go_enter Try.func4, Try.ntmps4
  go_wp2_with fail
  refine k1.mono ?_
  rintro e w1 ⟨v, rfl, ho, hg⟩
  obtain ⟨A1, c1, rfl, hR, hc1⟩ := ownsR_at ho HM.out
  have hS1 := hS0.call hg
  have HR := Lib.hid hR
  have HC1 := Lib.hid hc1
  clear hg hS0 ho hR hc1 k1
  go_wp2_with fail
  refine (k2 _ _ _ HR.out HC1.out).mono ?_
  rintro e w2 ⟨v, rfl, ho, hg⟩
  obtain ⟨A2, c2, rfl, hR2, hc2⟩ := ownsR_at ho HM.out
  have hS2 := hS1.call hg
  clear hg hS1 ho hR2 hc2 k2
  go_wp2_with fail
  refine (k3 _ _ _).mono ?_
  rintro e w3 ⟨rfl, hg⟩
  have hS3 := hS2.call hg
  clear hg hS2
  go_wp2_with fail
  refine (awake_any _).mono ?_
  rintro e w4 ⟨rfl, hg⟩
  have hS4 := hS3.call hg
  clear hg hS3
  cases b1
  · have t2 := HB.out rfl
    go_wp2_with fail
    refine (awake_any _).mono ?_
    rintro e w5 ⟨rfl, hg⟩
    have hS5 := hS4.call hg
    clear hg hS4
    go_wp2_with fail
    go_ret
    exact ⟨rfl, hS5.grown⟩
  · clear HB
    go_wp2_with fail
    refine (awake_any _).mono ?_
    rintro e w5 ⟨rfl, hg⟩
    have hS5 := hS4.call hg
    clear hg hS4
    go_wp2_with fail
    go_ret
    exact ⟨rfl, hS5.grown⟩
theorem walk_MerklePaths (w : World) (A : Option Addr) (n c : Nat) (b : List UInt8) (hn : b.length = n * 32) (hb : Bytes w A b) (hle : n ≤ c) (hr : c * 32 ≤ 140737488351232) (hnil : A = none → c = 0) (i : Int) (wi : (Lit.int .i64 i).wf = true) :
    Calls Try.prog 4 #[.slice A n c, .int .i64 i] w fun e w' => e = .returned (.bool true) ∧ w.grownBy w' none := by
  obtain ⟨L, rfl, rfl, hL⟩ := Rows32.of_flat hn hb hle hnil
  have hK : (L.take 70).length ≤ 70 := by simp; omega
  have hall := hL.all.take 70
  have c1 := cut_any A c L 70 w hL (by omega) (by omega)
  obtain ⟨K, hKd⟩ : ∃ K, K = L.take 70 := ⟨_, rfl⟩
  rw [← hKd] at hK hall c1
  by_cases hi : 0 ≤ i ∧ i < (K.length : Int)
  · obtain ⟨k, rfl⟩ : ∃ k : Nat, i = (k : Int) := ⟨i.toNat, by omega⟩
    have hk : k < K.length := by omega
    obtain ⟨hQ, hQl⟩ := pathL_spec _ K k (Nat.le_refl _) hall
    refine paths_ok w A L.length c K.length (pathL K k).length k K (pathL K k) (rootL K) (K.getD k []) (Lib.hid rfl) (Lib.hid rfl) (Lib.hid (hall.at_ k hk)) (Lib.hid rfl) (by omega) (by omega) (Lib.hid hk) c1
      (fun A c W h hc => to_any A c K W h (by omega)) (fun A c W h hc => pathx_ok A c K k W h hc (by omega) hk) (fun A c W h hc => from_any A c _ W h (by omega)) (fun A c W h hc => rpath_any _ A c K k W (Nat.le_refl _) h hc (by omega) hk)
      (fun A c B d W h1 h2 => ?_) (fun A c W h hc => rroot_any _ A c K W (Nat.le_refl _) h hc) (fun A c W h hc => ?_)
    · have := same_any A B c d _ _ W h1 h2 (by omega)
      rw [decide_eq_true rfl] at this
      exact this
    · have := check_any K.length k (rootL K) (K.getD k []) A c (pathL K k) W (rootL_length _ hall) (hall.at_ k hk) h hc (by omega) hk
      rw [check_path hk] at this
      exact this
  · exact paths_bad w A L.length c K.length i K (Lib.hid rfl) (by omega) (by omega) c1 (fun A c W h hc => to_any A c K W h (by omega))
end Go.Proofs.Ytpohjldhbaalbaa
