/- The contract of digest.Sum. -/
import Derived.Test.YtpohjldhbaalbaaSum
namespace Go.Proofs.Ytpohjldhbaalbaa
set_option linter.unusedVariables false
set_option linter.unusedSimpArgs false
set_option linter.unusedSectionVars false
open Go.RowKit

theorem Bytes.off {w w' : World} {A : Option Addr} {p : List UInt8} {g : Nat} (h : Bytes w A p) (hg : w.grownBy w' none) (hgg : w.heap.size ≤ g) : BytesOff w' g A p := by
  intro hp
  obtain ⟨b, off, hA, hc⟩ := h hp
  have hb : b < w.heap.size := World.block_lt_of_cell? w _ (hc 0 hp)
  exact ⟨b, off, hA, by omega, fun j hj => hg.cell (hc j hj) (by simp)⟩

set_option maxRecDepth 100000 in
set_option maxHeartbeats 1000000 in
theorem dsum_any (c : Nat) (A : Option Addr) (p : List UInt8) (w : World) (hp : Bytes w A p) (hc : p.length ≤ c) (hc2 : c ≤ 9223372036854775807) (hl : p.length ≤ 2305843009213693951) :
    Calls Try.prog 44 #[.slice A p.length c] w fun e w' => e = .returned (.agg (c8 (sha p)).toArray) ∧ w.grownBy w' none := by
  go_enter Try.func44, Try.ntmps44
  go_wp2_with (first | (refine wp_alloc (o := ⟨some 2, _, _, _, _, _⟩) rfl 27 rfl _ alloc_d ?_))
  intro w1 hd1 hg1 hz1
  have HZ1 := Lib.hid hz1
  clear hz1
  go_wp2_with fail
  refine (new_any _).mono ?_
  rintro e w2 ⟨rfl, hr2, hg2⟩
  have hd2 := hd1.grown hg2 (by simp)
  have hg12 := grownBy_trans hg1 hg2
  have hoff := hp.off hg12 (g := w1.heap.size) hg1.size
  have hlt : w.heap.size < w1.heap.size := by have := HZ1.out; omega
  have hhas : Has w2 w1.heap.size (begin0, []) 0 := ⟨_, by simp, rfl, rfl, hr2⟩
  clear hd1 hg1 hg2 hr2
  go_wp2_with fail
  refine (put_any w1.heap.size 0 c A p _ _ hoff hc hc2 hhas (by omega)).mono ?_
  rintro e w3 ⟨rfl, hg3, hhas3⟩
  have hd3 := hd2.grown hg3 (by simp; omega)
  have hg13 := grownBy_in hg12 hg3 (by omega)
  clear hd2 hg12 hg3 hhas hoff
  rw [Nat.zero_add] at hhas3
  go_wp2_with fail
  refine (stsum_any w1.heap.size p.length _ _ hhas3 hl).mono ?_
  rintro e w4 ⟨rfl, hg4⟩
  have hd4 := hd3.grown hg4 (by simp)
  have hg14 := grownBy_trans hg13 hg4
  obtain ⟨D, hD⟩ : ∃ D, D = closeOf (feed (begin0, []) p) p.length := ⟨_, rfl⟩
  have hDl : D.length = 32 := by rw [hD]; exact bytesOf_length _
  rw [← hD]
  have HD := Lib.hid hD
  have hlb := Lib.hid (show (Try.prog.info? 27).map (·.size) = some (c8 D).length by rw [c8_length, hDl]; kernel_rfl)
  have hone := Lib.hid (show ∀ u ∈ c8 D, u.oneCell' = true by intro u hu; simp only [c8, List.mem_map] at hu; obtain ⟨x, _, rfl⟩ := hu; rfl)
  have hfit := Lib.hid (show 0 + (c8 D).length ≤ zd.length by rw [c8_length, hDl]; decide)
  have hd4' := Lib.hid hd4
  clear hD hd4 hd3 hg13 hg4 hhas3
  go_wp2_with (refine wp_storeAgg rfl 27 (.tmp 2) (.tmp 9) rfl w.heap.size 0 27 zd (c8 D) rfl rfl hd4'.out hlb.out hfit.out hone.out ?_)
  intro w5 hdr hg5 hz5
  rw [splice_all (by rw [c8_length, hDl]; decide)] at hdr
  go_wp2
  have hlb' : (Try.prog.info? 27).map (·.size) = some (c8 D).toArray.size := by rw [List.size_toArray]; exact hlb.out
  refine bodyPost_ret (v := .agg (c8 D).toArray) (results_cell_row rfl _ _ w.heap.size _ _ _ _ rfl hdr Try.underlying27 rfl hlb') rfl ⟨?_, grownBy_in hg14 hg5 (Nat.le_refl _)⟩
  rw [HD.out]; rfl
end Go.Proofs.Ytpohjldhbaalbaa
