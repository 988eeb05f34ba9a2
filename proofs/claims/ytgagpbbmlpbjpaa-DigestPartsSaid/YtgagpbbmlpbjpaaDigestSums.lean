/- The walk of the law DigestSums. -/
import Derived.Test.YtgagpbbmlpbjpaaText
import Derived.Test.YtgagpbbmlpbjpaaRSum2
namespace Go.Proofs.Ytgagpbbmlpbjpaa
open Go.RowKit

theorem eq_dig (W : World) (a b : List UInt8) (ha : a.length = 32) (hb : b.length = 32) :
    (Op.equalIn 10000 25 (.agg (c8 a).toArray) (.agg (c8 b).toArray)).run Try.prog W = .ok (decide (a = b)) W :=
  run_eq8 W (D := 2) (k := 2) (n := 32) Try.underlying25 (by kernel_rfl) (by kernel_rfl)
    (reads8_array (n := 32) (c := 1) Try.underlying25 (by kernel_rfl) (by kernel_rfl) (reads8_u8 0 Try.underlying5)) a b ha hb 9998

set_option maxRecDepth 100000 in
set_option maxHeartbeats 1000000 in
theorem walk_DigestSums (w : World) (A : Option Addr) (c : Nat) (p : List UInt8) (hp : Bytes w A p) (hc : p.length ≤ c) (hr : c ≤ 140737488351232) :
    Calls Try.prog 3 #[.slice A p.length c] w fun e w' => e = .returned (.bool true) ∧ w.grownBy w' none := by
  have heq := fun W => eq_dig W (sha p) (sha p) (sha_length p) (sha_length p)
  simp only [decide_true] at heq
  go_enter Try.func3, Try.ntmps3
  go_wp2_with fail
  refine (awake_any _).mono ?_
  rintro e w2 ⟨rfl, hg2⟩
  have hS2 := (Own.start w).call hg2
  clear hg2
  go_wp2_with fail
  refine (dsum_any c A p _ (hp.keep hS2.grown) hc (by omega) (by omega)).mono ?_
  rintro e w3 ⟨rfl, hg3⟩
  have hS3 := hS2.call hg3
  clear hg3 hS2
  go_wp2_with fail
  refine (rsum_any c A p _ (hp.keep hS3.grown) (by omega)).mono ?_
  rintro e w4 ⟨rfl, hg4⟩
  have hS4 := hS3.call hg4
  clear hg4 hS3
  go_wp2
  go_ret
  exact ⟨rfl, hS4.grown⟩
end Go.Proofs.Ytgagpbbmlpbjpaa
