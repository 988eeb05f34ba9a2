/- The methods at a nil graph, a nil marker. -/
import Derived.Test.YtnlnkojcbjaeeaaOps18
namespace Go.Proofs.Ytnlnkojcbjaeeaa
set_option linter.unusedVariables false
set_option linter.unusedSimpArgs false
set_option linter.unusedSectionVars false
open Go.RowKit
set_option linter.unusedVariables false
set_option maxRecDepth 100000 in
set_option maxHeartbeats 1000000 in
theorem put_nil (w : World) (d : Dg) (A : Option Addr) (n c : Nat) :
    Calls Try.prog 9 #[.pointer none, dgv d, .slice A n c] w fun e w' => e = .returned (.int .i64 2) ∧ w.grownBy w' none := by
  have hS := Own.start w
  go_enter Try.func9, Try.ntmps9
  go_wp2_with (refine wp_box (o := ⟨some 4, _, _, _, _, _⟩) rfl 30 (.tmp 1) rfl (c8 d) rfl ?_)
  intro w1 hr hg hz
  clear hz
  have hS1 := hS.new hr hg
  clear hr hg hS
  go_wp2
  go_ret
  exact ⟨rfl, hS1.grown⟩
set_option maxRecDepth 100000 in
set_option maxHeartbeats 1000000 in
theorem drop_nil (w : World) (d : Dg) :
    Calls Try.prog 31 #[.pointer none, dgv d] w fun e w' => e = .returned (.int .i64 2) ∧ w.grownBy w' none := by
  have hS := Own.start w
  go_enter Try.func31, Try.ntmps31
  go_wp2_with (refine wp_box (o := ⟨some 3, _, _, _, _, _⟩) rfl 30 (.tmp 1) rfl (c8 d) rfl ?_)
  intro w1 hr hg hz
  clear hz
  have hS1 := hS.new hr hg
  clear hr hg hS
  go_wp2
  go_ret
  exact ⟨rfl, hS1.grown⟩
set_option maxRecDepth 100000 in
set_option maxHeartbeats 1000000 in
theorem edges_nil (w : World) (d : Dg) :
    Calls Try.prog 25 #[.pointer none, dgv d] w fun e w' => e = .returned (.tuple #[.slice none 0 0, .bool false]) ∧ w.grownBy w' none := by
  have hS := Own.start w
  go_enter Try.func25, Try.ntmps25
  go_wp2_with (refine wp_box (o := ⟨some 3, _, _, _, _, _⟩) rfl 30 (.tmp 1) rfl (c8 d) rfl ?_)
  intro w1 hr hg hz
  clear hz
  have hS1 := hS.new hr hg
  clear hr hg hS
  go_wp2
  refine bodyPost_ret (results_tmp2 rfl _ _ _) rfl ⟨rfl, hS1.grown⟩
set_option maxRecDepth 100000 in
set_option maxHeartbeats 1000000 in
theorem nodes_nil (w : World) :
    Calls Try.prog 24 #[.pointer none] w fun e w' => e = .returned (.slice none 0 0) ∧ w.grownBy w' none := by
  have hS := Own.start w
  go_enter Try.func24, Try.ntmps24
  go_wp2
  go_ret
  exact ⟨rfl, grownBy_refl _ _⟩
set_option maxRecDepth 100000 in
set_option maxHeartbeats 1000000 in
theorem mark_nil (w : World) (A : Option Addr) (n c : Nat) :
    Calls Try.prog 18 #[.pointer none, .slice A n c] w fun e w' => e = .returned (.pointer none) ∧ w.grownBy w' none := by
  have hS := Own.start w
  go_enter Try.func18, Try.ntmps18
  go_wp2
  go_ret
  exact ⟨rfl, grownBy_refl _ _⟩
set_option maxRecDepth 100000 in
set_option maxHeartbeats 1000000 in
theorem gray_nil (w : World) (d : Dg) :
    Calls Try.prog 22 #[.pointer none, dgv d] w fun e w' => e = .returned (.int .i64 2) ∧ w.grownBy w' none := by
  have hS := Own.start w
  go_enter Try.func22, Try.ntmps22
  go_wp2_with (refine wp_box (o := ⟨some 3, _, _, _, _, _⟩) rfl 30 (.tmp 1) rfl (c8 d) rfl ?_)
  intro w1 hr hg hz
  clear hz
  have hS1 := hS.new hr hg
  clear hr hg hS
  go_wp2
  go_ret
  exact ⟨rfl, hS1.grown⟩
set_option maxRecDepth 100000 in
set_option maxHeartbeats 1000000 in
theorem step_nil (w : World) (n : Int) :
    Calls Try.prog 20 #[.pointer none, .int .i64 n] w fun e w' => e = .returned (.bool true) ∧ w.grownBy w' none := by
  have hS := Own.start w
  go_enter Try.func20, Try.ntmps20
  go_wp2
  go_ret
  exact ⟨rfl, grownBy_refl _ _⟩
set_option maxRecDepth 100000 in
set_option maxHeartbeats 1000000 in
theorem marked_nil (w : World) (d : Dg) :
    Calls Try.prog 21 #[.pointer none, dgv d] w fun e w' => e = .returned (.bool false) ∧ w.grownBy w' none := by
  have hS := Own.start w
  go_enter Try.func21, Try.ntmps21
  go_wp2_with (refine wp_box (o := ⟨some 3, _, _, _, _, _⟩) rfl 30 (.tmp 1) rfl (c8 d) rfl ?_)
  intro w1 hr hg hz
  clear hz
  have hS1 := hS.new hr hg
  clear hr hg hS
  go_wp2
  go_ret
  exact ⟨rfl, hS1.grown⟩
set_option maxRecDepth 100000 in
set_option maxHeartbeats 1000000 in
theorem left_nil (w : World) :
    Calls Try.prog 19 #[.pointer none] w fun e w' => e = .returned (.int .i64 0) ∧ w.grownBy w' none := by
  have hS := Own.start w
  go_enter Try.func19, Try.ntmps19
  go_wp2
  go_ret
  exact ⟨rfl, grownBy_refl _ _⟩
set_option maxRecDepth 100000 in
set_option maxHeartbeats 1000000 in
theorem refs_nil (w : World) (d : Dg) :
    Calls Try.prog 28 #[.pointer none, dgv d] w fun e w' => e = .returned (.int .i64 0) ∧ w.grownBy w' none := by
  have hS := Own.start w
  go_enter Try.func28, Try.ntmps28
  go_wp2_with (refine wp_box (o := ⟨some 3, _, _, _, _, _⟩) rfl 30 (.tmp 1) rfl (c8 d) rfl ?_)
  intro w1 hr hg hz
  clear hz
  have hS1 := hS.new hr hg
  clear hr hg hS
  go_wp2
  go_ret
  exact ⟨rfl, hS1.grown⟩
set_option maxRecDepth 100000 in
set_option maxHeartbeats 1000000 in
theorem reach_nil (w : World) (A : Option Addr) (n c : Nat) :
    Calls Try.prog 16 #[.pointer none, .slice A n c] w fun e w' => e = .returned (.slice none 0 0) ∧ w.grownBy w' none := by
  have hS := Own.start w
  go_enter Try.func16, Try.ntmps16
  go_wp2_with fail
  refine (mark_nil _ A n c).mono ?_
  rintro e w1 ⟨rfl, hg⟩
  have hS1 := hS.call hg
  clear hg hS
  go_wp2_with fail
  go_loopw [] (fun wr => Own w wr []) (fun _ => 0)
  case atStart => exact hS1
  case round =>
    clear hS1
    have hS1 := hrel
    clear hrel
    go_wp2_with fail
    refine (step_nil _ 1024).mono ?_
    rintro e w2 ⟨rfl, hg⟩
    have hS2 := hS1.call hg
    clear hg hS1
    go_wp2
    go_ret
    exact ⟨rfl, hS2.grown⟩
end Go.Proofs.Ytnlnkojcbjaeeaa
