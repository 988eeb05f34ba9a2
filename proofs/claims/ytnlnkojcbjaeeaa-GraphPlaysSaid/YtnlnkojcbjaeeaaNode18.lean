/- The law's node. -/
import Derived.Test.YtnlnkojcbjaeeaaContains18
namespace Go.Proofs.Ytnlnkojcbjaeeaa
set_option linter.unusedVariables false
set_option linter.unusedSimpArgs false
set_option linter.unusedSectionVars false
open Go.RowKit
set_option linter.unusedVariables false
def nodeL (n : UInt8) : Dg := (n % 9) :: (n % 2) :: List.replicate 30 0
theorem nodeL_len (n : UInt8) : (nodeL n).length = 32 := rfl
def vsN (a b : Int) : List Value := .int .u8 a :: .int .u8 b :: List.replicate 30 (.int .u8 0)
theorem built_node (a b : Int) : Try.prog.built 30 [(0, .int .u8 a), (1, .int .u8 b)] = some (vsN a b).toArray := by kernel_rfl
theorem n8_mod9 (n : UInt8) : n8 (n % 9) = n8 n % 9 := by unfold n8; rw [UInt8.toNat_mod]; rfl
theorem n8_mod2 (n : UInt8) : n8 (n % 2) = n8 n % 2 := by unfold n8; rw [UInt8.toNat_mod]; rfl
theorem vsN_node (n : UInt8) : vsN (n8 n % 9) (n8 n % 2) = c8 (nodeL n) := by
  rw [← n8_mod9, ← n8_mod2]; rfl
theorem info_vs (a b : Int) : (Try.prog.info? 30).map (·.size) = some (vsN a b).length := by kernel_rfl
theorem fit_vs (a b : Int) : 0 + (vsN a b).length ≤ zd.length := by simp [vsN, zd, c8]
theorem one_vs (a b : Int) : ∀ v ∈ vsN a b, v.oneCell' = true := by intro v hv; simp [vsN] at hv; rcases hv with rfl | rfl | rfl <;> rfl
set_option maxRecDepth 100000 in
set_option maxHeartbeats 1000000 in
theorem node_any (n : UInt8) (w : World) : Calls Try.prog 10 #[.int .u8 (n8 n)] w fun e w' => e = .returned (dgv (nodeL n)) ∧ w.grownBy w' none := by
  have hV := Lib.hid (vsN_node n)
  obtain ⟨x, hx⟩ : ∃ x, x = n8 n := ⟨_, rfl⟩
  have h0 : 0 ≤ x := by rw [hx]; unfold n8; omega
  have h1 : x < 256 := by rw [hx]; unfold n8; have := n.toNat_lt; omega
  rw [← hx] at hV ⊢
  clear hx
  have hS0 := Own.start w
  go_enter Try.func10, Try.ntmps10
  go_wp2_with (refine wp_alloc (o := ⟨some 2, _, _, _, _, _⟩) rfl 30 rfl _ alloc_d ?_)
  intro w1 hr hg hz
  clear hz
  have hS := hS0.new hr hg
  clear hr hg hS0
  go_wp2_with (first | (refine wp_built rfl 30 _ rfl [(0, .int .u8 (x % 9)), (1, .int .u8 (x % 2))] rfl _ (built_node _ _) ?_) | (refine wp_storeAgg rfl 30 (.tmp 2) (.tmp 7) rfl w.heap.size 0 30 zd (vsN (x % 9) (x % 2)) rfl rfl (hS.row 0 rfl) (info_vs _ _) (fit_vs _ _) (one_vs _ _) ?_))
  intro w2 hr hg _
  rw [splice_all (by simp [vsN, zd, c8]), hV.out] at hr
  have hS2 := hS.setRow 0 rfl hr hg
  clear hr hg hS
  go_wp2
  refine bodyPost_ret (v := .agg (c8 (nodeL n)).toArray) (results_cell_row rfl _ _ w.heap.size _ _ _ _ rfl (hS2.row 0 rfl) Try.underlying30 rfl (info_dg _ (nodeL_len n))) rfl ⟨rfl, hS2.grown⟩
end Go.Proofs.Ytnlnkojcbjaeeaa
