/- The statement GraphNil's walk. -/
import Derived.Test.YtnlnkojcbjaeeaaAwake18
import Derived.Test.YtnlnkojcbjaeeaaWf
namespace Go.Proofs.Ytnlnkojcbjaeeaa
set_option linter.unusedVariables false
set_option linter.unusedSimpArgs false
set_option linter.unusedSectionVars false
open Go.RowKit
set_option linter.unusedVariables false
set_option maxRecDepth 100000 in
set_option maxHeartbeats 8000000 in
theorem nil_core (w : World) (n : UInt8) (d : Dg) (hd : Hid (d.length = 32)) (hn : ∀ W, Calls Try.prog 10 #[.int .u8 (n8 n)] W fun e w' => e = .returned (.agg (c8 d).toArray) ∧ W.grownBy w' none) :
    Calls Try.prog 7 #[.int .u8 (n8 n)] w fun e w' => e = .returned (.bool true) ∧ w.grownBy w' none := by
  obtain ⟨x, hx⟩ : ∃ x, x = n8 n := ⟨_, rfl⟩
  rw [← hx] at hn ⊢
  clear hx
  have hS0 := Own.start w
  go_enter Try.func7, Try.ntmps7
  go_wp2_with fail
  refine (hn _).mono ?_
  rintro e v1 ⟨rfl, hg⟩
  have hS1 := hS0.call hg
  clear hg hS0
  go_wp2_with (refine wp_builtG1 rfl 32 (.tmp 9) rfl 30 Try.underlying32 32 info_zd (by omega) (by omega) (c8 d) (by rw [c8_length, hd.out]) rfl ?_)
  intro va hr hg
  have hS1a := hS1.call hg
  clear hr hg hS1
  go_wp2_with fail
  refine (mark_nil _ _ 1 1).mono ?_
  rintro e v2 ⟨rfl, hg⟩
  have hS2 := hS1a.call hg
  clear hg hS1a
  go_wp2_with fail
  refine (hn _).mono ?_
  rintro e v3 ⟨rfl, hg⟩
  have hS3 := hS2.call hg
  clear hg hS2
  go_wp2_with fail
  refine (edges_nil _ d).mono ?_
  rintro e v4 ⟨rfl, hg⟩
  have hS4 := hS3.call hg
  clear hg hS3
  go_wp2_with fail
  refine (awake_any _).mono ?_
  rintro e v5 ⟨rfl, hg⟩
  have hS5 := hS4.call hg
  clear hg hS4
  go_wp2_with fail
  refine (hn _).mono ?_
  rintro e v6 ⟨rfl, hg⟩
  have hS6 := hS5.call hg
  clear hg hS5
  go_wp2_with fail
  refine (put_nil _ d none 0 0).mono ?_
  rintro e v7 ⟨rfl, hg⟩
  have hS7 := hS6.call hg
  clear hg hS6
  go_wp2_with fail
  refine (hn _).mono ?_
  rintro e v8 ⟨rfl, hg⟩
  have hS8 := hS7.call hg
  clear hg hS7
  go_wp2_with fail
  refine (drop_nil _ d).mono ?_
  rintro e v9 ⟨rfl, hg⟩
  have hS9 := hS8.call hg
  clear hg hS8
  go_wp2_with fail
  refine (nodes_nil _).mono ?_
  rintro e v10 ⟨rfl, hg⟩
  have hS10 := hS9.call hg
  clear hg hS9
  go_wp2_with fail
  refine (hn _).mono ?_
  rintro e v11 ⟨rfl, hg⟩
  have hS11 := hS10.call hg
  clear hg hS10
  go_wp2_with fail
  refine (refs_nil _ d).mono ?_
  rintro e v12 ⟨rfl, hg⟩
  have hS12 := hS11.call hg
  clear hg hS11
  go_wp2_with fail
  refine (hn _).mono ?_
  rintro e v13 ⟨rfl, hg⟩
  have hS13 := hS12.call hg
  clear hg hS12
  go_wp2_with (refine wp_builtG1 rfl 32 (.tmp 58) rfl 30 Try.underlying32 32 info_zd (by omega) (by omega) (c8 d) (by rw [c8_length, hd.out]) rfl ?_)
  intro vb hr hg
  have hS13a := hS13.call hg
  clear hr hg hS13
  go_wp2_with fail
  refine (reach_nil _ _ 1 1).mono ?_
  rintro e v14 ⟨rfl, hg⟩
  have hS14 := hS13a.call hg
  clear hg hS13a
  go_wp2_with fail
  refine (hn _).mono ?_
  rintro e v15 ⟨rfl, hg⟩
  have hS15 := hS14.call hg
  clear hg hS14
  go_wp2_with fail
  refine (gray_nil _ d).mono ?_
  rintro e v16 ⟨rfl, hg⟩
  have hS16 := hS15.call hg
  clear hg hS15
  go_wp2_with fail
  refine (step_nil _ 3).mono ?_
  rintro e v17 ⟨rfl, hg⟩
  have hS17 := hS16.call hg
  clear hg hS16
  go_wp2_with fail
  refine (hn _).mono ?_
  rintro e v18 ⟨rfl, hg⟩
  have hS18 := hS17.call hg
  clear hg hS17
  go_wp2_with fail
  refine (marked_nil _ d).mono ?_
  rintro e v19 ⟨rfl, hg⟩
  have hS19 := hS18.call hg
  clear hg hS18
  go_wp2_with fail
  refine (left_nil _).mono ?_
  rintro e v20 ⟨rfl, hg⟩
  have hS20 := hS19.call hg
  clear hg hS19
  go_wp2
  go_ret
  exact ⟨rfl, hS20.grown⟩
theorem walk_GraphNil (w : World) (a : Int) (wa : (Lit.int .u8 a).wf = true) : Calls Try.prog 7 #[.int .u8 a] w fun e w' => e = .returned (.bool true) ∧ w.grownBy w' none := by
  obtain ⟨n, rfl⟩ := of_u8 wa
  exact nil_core w n (nodeL n) (Lib.hid (nodeL_len n)) (fun W => node_any n W)
end Go.Proofs.Ytnlnkojcbjaeeaa
