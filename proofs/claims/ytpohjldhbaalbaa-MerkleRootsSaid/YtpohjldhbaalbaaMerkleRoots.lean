/- The walk of the law MerkleRoots. -/
import Derived.Test.YtpohjldhbaalbaaAwake3
namespace Go.Proofs.Ytpohjldhbaalbaa
set_option linter.unusedVariables false
set_option linter.unusedSimpArgs false
set_option linter.unusedSectionVars false
open Go.RowKit
set_option linter.unusedVariables false

set_option maxRecDepth 100000 in
set_option maxHeartbeats 8000000 in
theorem roots_core (w : World) (A : Option Addr) (n c : Nat) (B : Option Addr) (m d : Nat) (K : List (List UInt8)) (D R : List UInt8) (HK : Hid (K.length ≤ 70))
    (k1 : Calls Try.prog 13 #[.slice A n c, .int .i64 70] w fun e w' => ∃ v, e = .returned v ∧ OwnsR w' w.heap.size 26 v K ∧ w.grownBy w' none)
    (k2 : ∀ W, w.grownBy W none → Calls Try.prog 15 #[.slice B m d] W fun e w' => e = .returned (.agg (c8 D).toArray) ∧ W.grownBy w' none)
    (k3 : ∀ W, w.grownBy W none → Calls Try.prog 16 #[.slice B m d] W fun e w' => e = .returned (.agg (c8 D).toArray) ∧ W.grownBy w' none)
    (k4 : ∀ A c W, Rows32 W A c K → c ≤ 9223372036854775807 → Calls Try.prog 18 #[.slice A K.length c] W fun e w' => ∃ v, e = .returned v ∧ OwnsR w' W.heap.size 27 v K ∧ W.grownBy w' none)
    (k5 : ∀ A c W, Rows32 W A c K → c ≤ 9223372036854775807 → Calls Try.prog 17 #[.slice A K.length c] W fun e w' => e = .returned (.agg (c8 R).toArray) ∧ W.grownBy w' none)
    (k6 : ∀ A c W, Rows32 W A c K → c ≤ 9223372036854775807 → Calls Try.prog 19 #[.slice A K.length c] W fun e w' => e = .returned (.agg (c8 R).toArray) ∧ W.grownBy w' none)
    (heD : ∀ W : World, (Op.equalIn 10000 27 (.agg (c8 D).toArray) (.agg (c8 D).toArray)).run Try.prog W = .ok true W)
    (heR : ∀ W : World, (Op.equalIn 10000 27 (.agg (c8 R).toArray) (.agg (c8 R).toArray)).run Try.prog W = .ok true W) :
    Calls Try.prog 3 #[.slice A n c, .slice B m d] w fun e w' => e = .returned (.bool true) ∧ w.grownBy w' none := by
  have hS0 := Own.start w
  go_enter Try.func3, Try.ntmps3
  go_wp2_with fail
  refine k1.mono ?_
  rintro e w1 ⟨v, rfl, ho, hg⟩
  obtain ⟨A', c', rfl, hR, hc'⟩ := ownsR_open ho
  have hS1 := hS0.call hg
  have HR := Lib.hid hR
  have HC := Lib.hid hc'
  clear hg hS0 ho hR hc' k1
  have hT := Own.start w1
  go_wp2_with fail
  refine (awake_any _).mono ?_
  rintro e w2 ⟨rfl, hg⟩
  have hT2 := hT.call hg
  clear hg hT
  go_wp2_with fail
  refine (k2 _ (hS1.call hT2.grown).grown).mono ?_
  rintro e w3 ⟨rfl, hg⟩
  have hT3 := hT2.call hg
  clear hg hT2
  go_wp2_with fail
  refine (k3 _ (hS1.call hT3.grown).grown).mono ?_
  rintro e w4 ⟨rfl, hg⟩
  have hT4 := hT3.call hg
  clear hg hT3
  go_wp2_with fail
  refine (k4 _ _ _ (HR.out.keep hT4.grown) HC.out).mono ?_
  rintro e w5 ⟨v, rfl, ho, hg⟩
  obtain ⟨A2, c2, rfl, hR2, hc2⟩ := ownsR_open ho
  have hT5 := hT4.call hg
  have HR2 := Lib.hid hR2
  have HC2 := Lib.hid hc2
  clear hg hT4 ho hR2 hc2 k4
  go_wp2_with fail
  refine (k5 _ _ _ HR2.out HC2.out).mono ?_
  rintro e w6 ⟨rfl, hg⟩
  have hT6 := hT5.call hg
  clear hg hT5
  go_wp2_with fail
  refine (k6 _ _ _ (HR.out.keep hT6.grown) HC.out).mono ?_
  rintro e w7 ⟨rfl, hg⟩
  have hT7 := hT6.call hg
  clear hg hT6
  go_wp2_with fail
  go_ret
  exact ⟨rfl, (hS1.call hT7.grown).grown⟩
theorem walk_MerkleRoots (w : World) (A : Option Addr) (n c : Nat) (b : List UInt8) (hn : b.length = n * 32) (hb : Bytes w A b) (hle : n ≤ c) (hr : c * 32 ≤ 140737488351232) (hnil : A = none → c = 0)
    (B : Option Addr) (d : Nat) (p : List UInt8) (hp : Bytes w B p) (hd : p.length ≤ d) (hr2 : d ≤ 140737488351232) (hnil2 : B = none → d = 0) :
    Calls Try.prog 3 #[.slice A n c, .slice B p.length d] w fun e w' => e = .returned (.bool true) ∧ w.grownBy w' none := by
  obtain ⟨L, rfl, rfl, hL⟩ := Rows32.of_flat hn hb hle hnil
  have hK : (L.take 70).length ≤ 70 := by simp; omega
  have hRl := rootL_length (L.take 70) (hL.all.take 70)
  have hDl : (leafL p).length = 32 := sha_length _
  refine roots_core w A L.length c B p.length d (L.take 70) (leafL p) (rootL (L.take 70)) (Lib.hid hK) (cut_any A c L 70 w hL (by omega) (by omega)) (fun W hg => leaf_any B d p W (hp.keep hg) hd hnil2 hr2) (fun W hg => rleaf_any B d p W (hp.keep hg) hd hr2)
    (fun A c W h hc => to_any A c _ W h (by omega)) (fun A c W h hc => root_any _ A c _ W (Nat.le_refl _) h hc) (fun A c W h hc => rroot_any _ A c _ W (Nat.le_refl _) h hc) (fun W => ?_) (fun W => ?_)
  · rw [eq_dg W _ _ hDl hDl, decide_eq_true rfl]
  · rw [eq_dg W _ _ hRl hRl, decide_eq_true rfl]
end Go.Proofs.Ytpohjldhbaalbaa
