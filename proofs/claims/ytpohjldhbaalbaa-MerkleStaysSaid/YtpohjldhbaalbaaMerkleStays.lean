/- The walk of the law MerkleStays. -/
import Derived.Test.YtpohjldhbaalbaaStrays3
import Derived.Test.YtpohjldhbaalbaaExtAll3
import Derived.Test.YtpohjldhbaalbaaMerklePaths
import Derived.Test.YtpohjldhbaalbaaExtend3
namespace Go.Proofs.Ytpohjldhbaalbaa
set_option linter.unusedVariables false
set_option linter.unusedSimpArgs false
set_option linter.unusedSectionVars false
open Go.RowKit
set_option linter.unusedVariables false

set_option maxRecDepth 100000 in
set_option maxHeartbeats 16000000 in
theorem stays_core (w : World) (A0 B0 C0 : Option Addr) (la lb lw ca cb cw n m q : Nat) (sw : Bool) (L K Wy P : Way) (RA RB : List UInt8) (b E S F : Bool) (HN : Hid (L.length = n)) (HM : Hid (K.length = m)) (HQ : Hid (Wy.length = q)) (nm : (n : Int) ≤ (m : Int)) (hm : (m : Int) ≤ 70) (hnm : Hid (n ≤ m))
    (hsw : sw = false ∨ (n : Int) < (m : Int))
    (kc1 : ∀ W, w.grownBy W none → Calls Try.prog 13 #[.slice A0 la ca, .int .i64 70] W fun e w' => ∃ v, e = .returned v ∧ OwnsR w' W.heap.size 26 v (if sw = true then K else L) ∧ W.grownBy w' none)
    (kc2 : ∀ W, w.grownBy W none → Calls Try.prog 13 #[.slice B0 lb cb, .int .i64 70] W fun e w' => ∃ v, e = .returned v ∧ OwnsR w' W.heap.size 26 v (if sw = true then L else K) ∧ W.grownBy w' none)
    (kc3 : ∀ W, w.grownBy W none → Calls Try.prog 13 #[.slice C0 lw cw, .int .i64 70] W fun e w' => ∃ v, e = .returned v ∧ OwnsR w' W.heap.size 26 v Wy ∧ W.grownBy w' none)
    (kt : ∀ A c W, Rows32 W A c Wy → c ≤ 9223372036854775807 → Calls Try.prog 18 #[.slice A q c] W fun e w' => ∃ v, e = .returned v ∧ OwnsR w' W.heap.size 27 v Wy ∧ W.grownBy w' none)
    (kra : ∀ A c W, Rows32 W A c L → c ≤ 9223372036854775807 → Calls Try.prog 19 #[.slice A n c] W fun e w' => e = .returned (.agg (c8 RA).toArray) ∧ W.grownBy w' none)
    (krb : ∀ A c W, Rows32 W A c K → c ≤ 9223372036854775807 → Calls Try.prog 19 #[.slice A m c] W fun e w' => e = .returned (.agg (c8 RB).toArray) ∧ W.grownBy w' none)
    (kex : ∀ A c W, Rows32 W A c Wy → c ≤ 9223372036854775807 → Calls Try.prog 29 #[.agg (c8 RA).toArray, .int .i64 (n : Int), .agg (c8 RB).toArray, .int .i64 (m : Int), .slice A q c] W fun e w' => e = .returned (.bool b) ∧ W.grownBy w' none)
    (kpr : ∀ A c W, Rows32 W A c K → c ≤ 9223372036854775807 → Calls Try.prog 31 #[.slice A m c, .int .i64 (n : Int)] W fun e w' => ∃ v, e = .returned v ∧ OwnsR w' W.heap.size 26 v P ∧ W.grownBy w' none)
    (ks1 : ∀ A c B d W, Rows32 W A c L → Rows32 W B d (K.take n) → Calls Try.prog 21 #[.slice A n c, .slice B n d] W fun e w' => e = .returned (.bool E) ∧ W.grownBy w' none)
    (ks2 : ∀ A c B d W, Rows32 W A c Wy → Rows32 W B d P → Calls Try.prog 21 #[.slice A q c, .slice B P.length d] W fun e w' => e = .returned (.bool S) ∧ W.grownBy w' none)
    (kst : E = false → b = true → ∀ A c B d C e W, Rows32 W A c L → Rows32 W B d K → Rows32 W C e Wy → c ≤ 9223372036854775807 → d ≤ 9223372036854775807 → e ≤ 9223372036854775807 → Calls Try.prog 32 #[.slice A n c, .slice B m d, .bool true, .slice C q e] W fun e' w' => e' = .returned (.bool F) ∧ W.grownBy w' none)
    (H1 : Hid (b = false → E = true → S = false)) (H2 : Hid (b = true → E = false → F = true)) :
    Calls Try.prog 8 #[.slice A0 la ca, .slice B0 lb cb, .slice C0 lw cw] w fun e w' => e = .returned (.bool true) ∧ w.grownBy w' none := by
  have hS0 := Own.start w
  cases sw
  · skip
    have kc1' : ∀ W, w.grownBy W none → Calls Try.prog 13 #[.slice A0 la ca, .int .i64 70] W fun e w' => ∃ v, e = .returned v ∧ OwnsR w' W.heap.size 26 v L ∧ W.grownBy w' none := kc1
    have kc2' : ∀ W, w.grownBy W none → Calls Try.prog 13 #[.slice B0 lb cb, .int .i64 70] W fun e w' => ∃ v, e = .returned v ∧ OwnsR w' W.heap.size 26 v K ∧ W.grownBy w' none := kc2
    clear kc1 kc2 hsw
    go_enter Try.func8, Try.ntmps8
    go_wp2_with fail
    refine (kc1' _ hS0.grown).mono ?_
    rintro e w1 ⟨v, rfl, ho, hg⟩
    obtain ⟨A1, c1, rfl, hR, hc1⟩ := ownsR_at ho HN.out
    have hS1 := hS0.call hg
    have HR11 := Lib.hid hR
    have HC1 := Lib.hid hc1
    clear hg hS0 ho hR hc1 kc1'
    go_wp2_with fail
    refine (kc2' _ hS1.grown).mono ?_
    rintro e w2 ⟨v, rfl, ho, hg⟩
    obtain ⟨A2, c2, rfl, hR, hc2⟩ := ownsR_at ho HM.out
    have hS2 := hS1.call hg
    have HR12 := Lib.hid (HR11.out.keep hg)
    have HR22 := Lib.hid hR
    have HC2 := Lib.hid hc2
    clear hg hS1 ho hR hc2 kc2'
    go_wp2_with fail
    refine (kc3 _ hS2.grown).mono ?_
    rintro e w3 ⟨v, rfl, ho, hg⟩
    obtain ⟨A3, c3, rfl, hR, hc3⟩ := ownsR_at ho HQ.out
    have hS3 := hS2.call hg
    have HR13 := Lib.hid (HR12.out.keep hg)
    have HR23 := Lib.hid (HR22.out.keep hg)
    have HR33 := Lib.hid hR
    have HC3 := Lib.hid hc3
    clear hg hS2 ho hR hc3 kc3
    have HG := Lib.hid hS3.grown
    clear hS3
    have hT := Own.start w3
    have hle := HR23.out.le
    rw [HM.out] at hle
    have hto := fun W => run_to32 Try.underlying22 size_a A2 m c2 n (by have := hnm.out; omega) W
    have HTK := Lib.hid (HR23.out.take n (by rw [HM.out]; exact hnm.out))
    clear hle
    have g1 : decide ((m : Int) < (n : Int)) = false := by simp; omega
    have g2 : ¬ (m : Int) < (n : Int) := by omega
    go_wp2_with fail
    refine (ks1 _ _ _ _ _ (HR13.out.keep hT.grown) (HTK.out.keep hT.grown)).mono ?_
    rintro e w4 ⟨rfl, hg⟩
    have hT1 := hT.call hg
    clear hg hT
    go_wp2_with fail
    refine (kra _ _ _ (HR13.out.keep hT1.grown) HC1.out).mono ?_
    rintro e w5 ⟨rfl, hg⟩
    have hT2 := hT1.call hg
    clear hg hT1
    go_wp2_with fail
    refine (krb _ _ _ (HR23.out.keep hT2.grown) HC2.out).mono ?_
    rintro e w6 ⟨rfl, hg⟩
    have hT3 := hT2.call hg
    clear hg hT2
    go_wp2_with fail
    refine (kt _ _ _ (HR33.out.keep hT3.grown) HC3.out).mono ?_
    rintro e w7 ⟨v, rfl, ho, hg⟩
    obtain ⟨A4, c4, rfl, hR4, hc4⟩ := ownsR_at ho HQ.out
    have hT4 := hT3.call hg
    clear hg hT3 ho
    go_wp2_with fail
    refine (kex _ _ _ hR4 hc4).mono ?_
    rintro e w8 ⟨rfl, hg⟩
    have hT5 := hT4.call hg
    clear hg hT4 hR4 hc4
    cases b
    · have HS := Lib.hid (H1.out (by trivial))
      clear H1 H2 kst
      go_wp2_with fail
      refine (awake_any _).mono ?_
      rintro e w9 ⟨rfl, hg⟩
      have hT6 := hT5.call hg
      clear hg hT5
      cases E
      · go_wp2
        go_ret
        exact ⟨rfl, grownBy_trans HG.out hT6.grown⟩
      · have HSF := Lib.hid (HS.out (by trivial))
        go_wp2_with fail
        refine (kpr _ _ _ (HR23.out.keep hT6.grown) HC2.out).mono ?_
        rintro e wA ⟨v, rfl, ho, hg⟩
        obtain ⟨A5, c5, rfl, hR5, hc5⟩ := ownsR_open ho
        have hT7 := hT6.call hg
        clear hg hT6 ho
        have hsame := ks2 _ _ _ _ _ (HR33.out.keep hT7.grown) hR5
        rw [HSF.out] at hsame
        go_wp2_with fail
        refine hsame.mono ?_
        rintro e wB ⟨rfl, hg⟩
        have hT8 := hT7.call hg
        clear hg hT7 hsame hR5
        go_wp2
        go_ret
        exact ⟨rfl, grownBy_trans HG.out hT8.grown⟩
    · have HS := Lib.hid (H2.out (by trivial))
      clear H1 H2
      go_wp2_with fail
      refine (awake_any _).mono ?_
      rintro e w9 ⟨rfl, hg⟩
      have hT6 := hT5.call hg
      clear hg hT5
      cases E
      · have HF := Lib.hid (HS.out (by trivial))
        have kst' := kst (by trivial) (by trivial)
        rw [HF.out] at kst'
        clear kst
        go_wp2_with fail
        refine (kst' _ _ _ _ _ _ _ (HR13.out.keep hT6.grown) (HR23.out.keep hT6.grown) (HR33.out.keep hT6.grown) HC1.out HC2.out HC3.out).mono ?_
        rintro e wA ⟨rfl, hg⟩
        have hT7 := hT6.call hg
        clear hg hT6
        go_wp2
        go_ret
        exact ⟨rfl, grownBy_trans HG.out hT7.grown⟩
      · go_wp2
        go_ret
        exact ⟨rfl, grownBy_trans HG.out hT6.grown⟩
  · have hlt : (n : Int) < (m : Int) := by rcases hsw with h | h; cases h; exact h
    have kc1' : ∀ W, w.grownBy W none → Calls Try.prog 13 #[.slice A0 la ca, .int .i64 70] W fun e w' => ∃ v, e = .returned v ∧ OwnsR w' W.heap.size 26 v K ∧ W.grownBy w' none := kc1
    have kc2' : ∀ W, w.grownBy W none → Calls Try.prog 13 #[.slice B0 lb cb, .int .i64 70] W fun e w' => ∃ v, e = .returned v ∧ OwnsR w' W.heap.size 26 v L ∧ W.grownBy w' none := kc2
    clear kc1 kc2 hsw
    go_enter Try.func8, Try.ntmps8
    go_wp2_with fail
    refine (kc1' _ hS0.grown).mono ?_
    rintro e w1 ⟨v, rfl, ho, hg⟩
    obtain ⟨A1, c1, rfl, hR, hc1⟩ := ownsR_at ho HM.out
    have hS1 := hS0.call hg
    have HR11 := Lib.hid hR
    have HC1 := Lib.hid hc1
    clear hg hS0 ho hR hc1 kc1'
    go_wp2_with fail
    refine (kc2' _ hS1.grown).mono ?_
    rintro e w2 ⟨v, rfl, ho, hg⟩
    obtain ⟨A2, c2, rfl, hR, hc2⟩ := ownsR_at ho HN.out
    have hS2 := hS1.call hg
    have HR12 := Lib.hid (HR11.out.keep hg)
    have HR22 := Lib.hid hR
    have HC2 := Lib.hid hc2
    clear hg hS1 ho hR hc2 kc2'
    go_wp2_with fail
    refine (kc3 _ hS2.grown).mono ?_
    rintro e w3 ⟨v, rfl, ho, hg⟩
    obtain ⟨A3, c3, rfl, hR, hc3⟩ := ownsR_at ho HQ.out
    have hS3 := hS2.call hg
    have HR13 := Lib.hid (HR12.out.keep hg)
    have HR23 := Lib.hid (HR22.out.keep hg)
    have HR33 := Lib.hid hR
    have HC3 := Lib.hid hc3
    clear hg hS2 ho hR hc3 kc3
    have HG := Lib.hid hS3.grown
    clear hS3
    have hT := Own.start w3
    have hle := HR13.out.le
    rw [HM.out] at hle
    have hto := fun W => run_to32 Try.underlying22 size_a A1 m c1 n (by have := hnm.out; omega) W
    have HTK := Lib.hid (HR13.out.take n (by rw [HM.out]; exact hnm.out))
    clear hle
    have g1 : decide ((m : Int) > (n : Int)) = true := by simp; omega
    have g2 : (n : Int) < (m : Int) := hlt
    have g3 : decide ((n : Int) < (m : Int)) = true := by simp; omega
    go_wp2_with fail
    refine (ks1 _ _ _ _ _ (HR23.out.keep hT.grown) (HTK.out.keep hT.grown)).mono ?_
    rintro e w4 ⟨rfl, hg⟩
    have hT1 := hT.call hg
    clear hg hT
    go_wp2_with fail
    refine (kra _ _ _ (HR23.out.keep hT1.grown) HC2.out).mono ?_
    rintro e w5 ⟨rfl, hg⟩
    have hT2 := hT1.call hg
    clear hg hT1
    go_wp2_with fail
    refine (krb _ _ _ (HR13.out.keep hT2.grown) HC1.out).mono ?_
    rintro e w6 ⟨rfl, hg⟩
    have hT3 := hT2.call hg
    clear hg hT2
    go_wp2_with fail
    refine (kt _ _ _ (HR33.out.keep hT3.grown) HC3.out).mono ?_
    rintro e w7 ⟨v, rfl, ho, hg⟩
    obtain ⟨A4, c4, rfl, hR4, hc4⟩ := ownsR_at ho HQ.out
    have hT4 := hT3.call hg
    clear hg hT3 ho
    go_wp2_with fail
    refine (kex _ _ _ hR4 hc4).mono ?_
    rintro e w8 ⟨rfl, hg⟩
    have hT5 := hT4.call hg
    clear hg hT4 hR4 hc4
    cases b
    · have HS := Lib.hid (H1.out (by trivial))
      clear H1 H2 kst
      go_wp2_with fail
      refine (awake_any _).mono ?_
      rintro e w9 ⟨rfl, hg⟩
      have hT6 := hT5.call hg
      clear hg hT5
      cases E
      · go_wp2
        go_ret
        exact ⟨rfl, grownBy_trans HG.out hT6.grown⟩
      · have HSF := Lib.hid (HS.out (by trivial))
        go_wp2_with fail
        refine (kpr _ _ _ (HR13.out.keep hT6.grown) HC1.out).mono ?_
        rintro e wA ⟨v, rfl, ho, hg⟩
        obtain ⟨A5, c5, rfl, hR5, hc5⟩ := ownsR_open ho
        have hT7 := hT6.call hg
        clear hg hT6 ho
        have hsame := ks2 _ _ _ _ _ (HR33.out.keep hT7.grown) hR5
        rw [HSF.out] at hsame
        go_wp2_with fail
        refine hsame.mono ?_
        rintro e wB ⟨rfl, hg⟩
        have hT8 := hT7.call hg
        clear hg hT7 hsame hR5
        go_wp2
        go_ret
        exact ⟨rfl, grownBy_trans HG.out hT8.grown⟩
    · have HS := Lib.hid (H2.out (by trivial))
      clear H1 H2
      go_wp2_with fail
      refine (awake_any _).mono ?_
      rintro e w9 ⟨rfl, hg⟩
      have hT6 := hT5.call hg
      clear hg hT5
      cases E
      · have HF := Lib.hid (HS.out (by trivial))
        have kst' := kst (by trivial) (by trivial)
        rw [HF.out] at kst'
        clear kst
        go_wp2_with fail
        refine (kst' _ _ _ _ _ _ _ (HR23.out.keep hT6.grown) (HR13.out.keep hT6.grown) (HR33.out.keep hT6.grown) HC2.out HC1.out HC3.out).mono ?_
        rintro e wA ⟨rfl, hg⟩
        have hT7 := hT6.call hg
        clear hg hT6
        go_wp2
        go_ret
        exact ⟨rfl, grownBy_trans HG.out hT7.grown⟩
      · go_wp2
        go_ret
        exact ⟨rfl, grownBy_trans HG.out hT6.grown⟩

theorem stays_law (L K Wy : Way) (hL : L32 L) (hK : L32 K) (hW : L32 Wy) (h : L.length ≤ K.length) :
    (extL (rootL L) L.length (rootL K) K.length Wy = false → L = K.take L.length → Wy ≠ proofL K L.length) ∧
    (extL (rootL L) L.length (rootL K) K.length Wy = true → L ≠ K.take L.length → straysL L K true Wy = true) := by
  refine ⟨fun hb he hs => ?_, fun hb he => ?_⟩
  · by_cases h0 : L.length = 0
    · have hLn : L = [] := List.eq_nil_of_length_eq_zero h0
      subst hLn
      have hp : proofL K 0 = [] := by simp [proofL]
      rw [show ([] : Way).length = 0 from rfl] at hs hb
      rw [hs, hp] at hb
      unfold extL at hb
      rw [if_pos rfl, rootL_nil] at hb
      rcases Nat.eq_zero_or_pos K.length with hk | hk
      · have hKn : K = [] := List.eq_nil_of_length_eq_zero hk
        subst hKn
        simp [rootL_nil] at hb
      · have hk1 : decide (0 < K.length) = true := decide_eq_true hk
        rw [hk1] at hb
        simp at hb
    · have := ext_proof K L.length h (by omega)
      rw [← he, ← hs] at this
      rw [this] at hb
      cases hb
  · have h0 : L.length ≠ 0 := by
      intro h0
      have hLn : L = [] := List.eq_nil_of_length_eq_zero h0
      subst hLn
      exact he (by simp)
    unfold extL at hb
    rw [if_neg h0] at hb
    exact strays_other _ L K true Wy (rootL L) (Nat.le_refl _) (by omega) h hL hK hW (fun _ => rfl) (of_decide_eq_true hb) he
theorem extZ_nat (old root : List UInt8) (m n : Nat) (h : m ≤ n) (way : Way) : extZ old (m : Int) root (n : Int) way = extL old m root n way := by
  unfold extZ
  rw [if_neg (by omega)]; rfl
theorem stays_main (w : World) (A0 B0 C0 : Option Addr) (la lb lw ca cb cw : Nat) (sw : Bool) (L K Wy : Way) (hL : L32 L) (hK : L32 K) (hW : L32 Wy) (h1 : L.length ≤ K.length) (h2 : K.length ≤ 70) (h3 : Wy.length ≤ 70) (hsw : sw = false ∨ L.length < K.length)
    (kc1 : ∀ W, w.grownBy W none → Calls Try.prog 13 #[.slice A0 la ca, .int .i64 70] W fun e w' => ∃ v, e = .returned v ∧ OwnsR w' W.heap.size 26 v (if sw = true then K else L) ∧ W.grownBy w' none)
    (kc2 : ∀ W, w.grownBy W none → Calls Try.prog 13 #[.slice B0 lb cb, .int .i64 70] W fun e w' => ∃ v, e = .returned v ∧ OwnsR w' W.heap.size 26 v (if sw = true then L else K) ∧ W.grownBy w' none)
    (kc3 : ∀ W, w.grownBy W none → Calls Try.prog 13 #[.slice C0 lw cw, .int .i64 70] W fun e w' => ∃ v, e = .returned v ∧ OwnsR w' W.heap.size 26 v Wy ∧ W.grownBy w' none) :
    Calls Try.prog 8 #[.slice A0 la ca, .slice B0 lb cb, .slice C0 lw cw] w fun e w' => e = .returned (.bool true) ∧ w.grownBy w' none := by
  obtain ⟨g1, g2⟩ := stays_law L K Wy hL hK hW h1
  have hRA := rootL_length L hL
  have hRB := rootL_length K hK
  have hP : L32 (proofL K L.length) ∧ (proofL K L.length).length ≤ 70 := by
    unfold proofL
    by_cases h0 : L.length = 0
    · rw [if_pos h0]; exact ⟨L32.nil, by simp⟩
    · rw [if_neg h0]
      have := partL_spec _ K L.length true (Nat.le_refl _) (by omega) hK
      exact ⟨this.1, by omega⟩
  refine stays_core w A0 B0 C0 la lb lw ca cb cw L.length K.length Wy.length sw L K Wy (proofL K L.length) (rootL L) (rootL K) (extL (rootL L) L.length (rootL K) K.length Wy) (decide (L = K.take L.length)) (decide (Wy = proofL K L.length)) (straysL L K true Wy)
    (Lib.hid rfl) (Lib.hid rfl) (Lib.hid rfl) (by omega) (by omega) (Lib.hid h1) (hsw.imp id (fun h => by omega)) kc1 kc2 kc3 (fun A c W h hc => to_any A c Wy W h (by omega)) (fun A c W h hc => rroot_any _ A c L W (Nat.le_refl _) h hc) (fun A c W h hc => rroot_any _ A c K W (Nat.le_refl _) h hc)
    (fun A c W h hc => ?_) (fun A c W h hc => rproof_any A c K L.length W h hc (by omega) h1) (fun A c B d W h4 h5 => ?_) (fun A c B d W h4 h5 => same_any A B c d _ _ W h4 h5 (by omega))
    (fun hE hb A c B d C e W h4 h5 h6 hc hd he => ?_) (Lib.hid fun hb he => decide_eq_false (g1 hb (of_decide_eq_true he))) (Lib.hid fun hb he => g2 hb (of_decide_eq_false he))
  · have := ext_any (L.length : Int) (K.length : Int) (rootL L) (rootL K) A c Wy W hRA hRB h hc (by omega)
    rw [extZ_nat _ _ _ _ h1] at this
    exact this
  · have := same_any A B c d _ _ W h4 h5 (by omega)
    rw [show (K.take L.length).length = L.length by simp; omega] at this
    exact this
  · have hne := of_decide_eq_false hE
    have h0 : L.length ≠ 0 := by
      intro h0
      have hLn : L = [] := List.eq_nil_of_length_eq_zero h0
      subst hLn
      exact hne (by simp)
    exact strays_any _ A c L B d K true C e Wy W (Nat.le_refl _) (by omega) h1 h4 h5 h6 hc hd he (by omega)
theorem walk_MerkleStays (w : World) (A : Option Addr) (n c : Nat) (b : List UInt8) (hn : b.length = n * 32) (hb : Bytes w A b) (hle : n ≤ c) (hr : c * 32 ≤ 140737488351232) (hnil : A = none → c = 0)
    (B : Option Addr) (l d : Nat) (b2 : List UInt8) (hn2 : b2.length = l * 32) (hb2 : Bytes w B b2) (hle2 : l ≤ d) (hr2 : d * 32 ≤ 140737488351232) (hnil2 : B = none → d = 0)
    (C : Option Addr) (k e : Nat) (b3 : List UInt8) (hn3 : b3.length = k * 32) (hb3 : Bytes w C b3) (hle3 : k ≤ e) (hr3 : e * 32 ≤ 140737488351232) (hnil3 : C = none → e = 0) :
    Calls Try.prog 8 #[.slice A n c, .slice B l d, .slice C k e] w fun e w' => e = .returned (.bool true) ∧ w.grownBy w' none := by
  obtain ⟨X, rfl, rfl, hX⟩ := Rows32.of_flat hn hb hle hnil
  obtain ⟨Y, rfl, rfl, hY⟩ := Rows32.of_flat hn2 hb2 hle2 hnil2
  obtain ⟨V, rfl, rfl, hV⟩ := Rows32.of_flat hn3 hb3 hle3 hnil3
  have hXl : (X.take 70).length ≤ 70 := by simp; omega
  have hYl : (Y.take 70).length ≤ 70 := by simp; omega
  have hVl : (V.take 70).length ≤ 70 := by simp; omega
  have c1 := fun W (hg : w.grownBy W none) => cut_any A c X 70 W (hX.keep hg) (by omega) (by omega)
  have c2 := fun W (hg : w.grownBy W none) => cut_any B d Y 70 W (hY.keep hg) (by omega) (by omega)
  have c3 := fun W (hg : w.grownBy W none) => cut_any C e V 70 W (hV.keep hg) (by omega) (by omega)
  by_cases hlt : (Y.take 70).length < (X.take 70).length
  · exact stays_main w A B C X.length Y.length V.length c d e true (Y.take 70) (X.take 70) (V.take 70) (hY.all.take 70) (hX.all.take 70) (hV.all.take 70) (by omega) hXl hVl (.inr hlt) c1 c2 c3
  · exact stays_main w A B C X.length Y.length V.length c d e false (X.take 70) (Y.take 70) (V.take 70) (hX.all.take 70) (hY.all.take 70) (hV.all.take 70) (by omega) hYl hVl (.inl rfl) c1 c2 c3
end Go.Proofs.Ytpohjldhbaalbaa
