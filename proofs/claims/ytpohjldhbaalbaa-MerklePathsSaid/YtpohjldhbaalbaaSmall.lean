/- Contracts of the small functions: New, rounds, Put. -/
import Derived.Test.YtpohjldhbaalbaaBits
import Derived.Test.YtpohjldhbaalbaaAgg
import Derived.KernelRfl
namespace Go.Proofs.Ytpohjldhbaalbaa
set_option linter.unusedVariables false
set_option linter.unusedSimpArgs false
set_option linter.unusedSectionVars false
open Go.RowKit
set_option linter.unusedVariables false

theorem info_u8 : (Try.prog.info? 5).map (fun i => (i.zero, i.size, i.bytes)) = some (some (.int .u8 0), 1, 1) := by kernel_rfl

/-- the cells of a State -/
def stCells (v : V8) (n : Nat) (tail : List UInt8) : List Value := c32 (wordsOf v) ++ (.int .u64 (n : Int) :: c8 tail)
def st0 : List Value := stCells begin0 0 (List.replicate 64 0)

set_option maxRecDepth 100000 in
theorem new_any (w : World) :
    Calls Try.prog 57 #[] w fun e w' => e = .returned (.pointer (some ⟨w.heap.size, 0, none⟩)) ∧ Row w' w.heap.size 100 (stCells begin0 0 (List.replicate 64 0)) ∧ w.grownBy w' none := by
  go_enter Try.func57, Try.ntmps57
  go_wp2_with (refine wpList_val (o := ⟨some 2, _, _, _, _, _⟩) rfl (.agg st0.toArray) ?_ ?_; · kernel_rfl)
  go_ret
  exact ⟨rfl, Row.new w _ st0, grownBy_alloc' (grownBy_refl _ _) _⟩

set_option maxRecDepth 100000 in
theorem rounds_any (w : World) :
    Calls Try.prog 66 #[] w fun e w' => e = .returned (.agg (c32 kList).toArray) ∧ w.grownBy w' none := by
  go_enter Try.func66, Try.ntmps66
  go_wp2_with (first | (refine wpList_val (o := ⟨some 1, _, _, _, _, _⟩) rfl (.agg (c32 kList).toArray) ?_ ?_; · kernel_rfl) | (refine wp_storeAgg rfl 101 (.tmp 0) (.tmp 1) rfl w.heap.size 0 101 (c32 (List.replicate 64 0)) (c32 kList) rfl rfl ?_ ?_ ?_ ?_ ?_))
  · exact Row.new w _ (c32 (List.replicate 64 0))
  · kernel_rfl
  · simp [kList]
  · simp [c32, v32, Value.oneCell']
  · intro w' hr hg hs
    rw [splice_all (by simp [kList])] at hr
    go_wp2
    refine bodyPost_ret (v := .agg (c32 kList).toArray) (results_cell_row rfl _ _ w.heap.size _ _ _ _ rfl hr Try.underlying101 rfl (by kernel_rfl)) rfl ⟨rfl, grownBy_in (grownBy_alloc' (grownBy_refl _ _) _) hg (Nat.le_refl _)⟩

theorem beByte_int (m j : Nat) : n8 (beByte m j) = (m : Int) / 2 ^ (8 * j) % 256 := by
  unfold n8 beByte
  rw [UInt8.toNat_ofNat', show (256 : Nat) = 2 ^ 8 from rfl, ← Nat.pow_mul]
  simp
theorem put_step (k j m : Nat) (h : j < k) : (c8 (List.replicate (k - j) 0 ++ beBytes m j)).set (k - 1 - j) (.int .u8 (n8 (beByte m j))) = c8 (List.replicate (k - (j + 1)) 0 ++ beBytes m (j + 1)) := by
  rw [c8_set]
  congr 1
  obtain ⟨d, hd⟩ : ∃ d, k - j = d + 1 := ⟨k - j - 1, by omega⟩
  rw [hd, show k - 1 - j = d from by omega, show k - (j + 1) = d from by omega, List.replicate_succ', List.append_assoc, List.set_append_right _ _ (by simp)]
  simp [beBytes]

set_option maxRecDepth 100000 in
theorem put_oct (m k : Nat) (w : World) (hk : k ≤ 8) (h1 : 1 ≤ k) (hm : m < 18446744073709551616) :
    Calls Try.prog 68 #[.int .u64 (m : Int), .int .i64 (k : Int)] w fun e w' =>
      e = .returned (.slice (some ⟨w.heap.size, 0, none⟩) k k) ∧ Row w' w.heap.size 5 (c8 (beBytes m k)) ∧ w.grownBy w' none := by
  have d1 : decide ((k : Int) < 0) = false := by simp
  have d2 : decide ((8 : Int) < k) = false := by simp; omega
  have hmk := run_make_row (P := Try.prog) w 23 5 (.int .u8 0) 1 Try.underlying23 (by kernel_rfl) rfl k (by omega) (by omega)
  go_enter Try.func68, Try.ntmps68
  go_wp2
  have hz : Row (w.alloc (.cells (Array.replicate k (.int .u8 0)) 5)) w.heap.size 5 (c8 (List.replicate k 0)) := by
    have h := Row.new w 5 (c8 (List.replicate k 0))
    rwa [show (c8 (List.replicate k 0)).toArray = Array.replicate k (.int .u8 0) from by simp only [c8, List.map_replicate]; exact List.toArray_replicate _ _] at h
  clear hmk
  go_loopw [16] (fun i wr => ∃ j : Nat, j ≤ k ∧ i = .int .i64 j ∧ Row wr w.heap.size 5 (c8 (List.replicate (k - j) 0 ++ beBytes m j)) ∧ w.grownBy wr none) (fun i _ => k - (intOf i).toNat)
  case atStart => exact ⟨0, by omega, rfl, by simpa [beBytes] using hz, grownBy_alloc' (grownBy_refl _ _) _⟩
  case round =>
    clear hz
    obtain ⟨j, hj, rfl, hr, hg⟩ := hrel
    by_cases hlt : j < k
    · have hl : (List.replicate (k - j) (0 : UInt8) ++ beBytes m j).length = k := by simp [beBytes_length]; omega
      have c0 := (hr.cell (k - 1 - j)).trans (c8_get _ (k - 1 - j) (by omega))
      have f0 := hr.frozen (k - 1 - j)
      have q1 : 0 ≤ (k : Int) - 1 - j := by omega
      have q2 : (k : Int) - 1 - j < k := by omega
      go_wp2
      go_roundw
      case rel =>
        refine ⟨j + 1, by omega, by go_num, ?_, grownBy_set hg (.inl (Nat.le_refl _)) _⟩
        rw [← beByte_int, ← put_step k j m hlt]
        exact hr.set _ _
      case measure => simp [intOf]; omega
    · have hke : j = k := by omega
      rw [hke] at hr
      clear hke
      go_wp2
      go_ret
      exact ⟨rfl, by simpa using hr, hg⟩
end Go.Proofs.Ytpohjldhbaalbaa
