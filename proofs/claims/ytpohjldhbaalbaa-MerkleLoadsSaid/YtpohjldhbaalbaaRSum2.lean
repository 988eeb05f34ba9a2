/- The contract of the document's Sum. -/
import Derived.Test.YtpohjldhbaalbaaRSum
namespace Go.Proofs.Ytpohjldhbaalbaa
set_option linter.unusedVariables false
set_option linter.unusedSimpArgs false
set_option linter.unusedSectionVars false
open Go.RowKit

set_option maxRecDepth 100000 in
set_option maxHeartbeats 1000000 in
theorem rsum_any (c : Nat) (A : Option Addr) (p : List UInt8) (w : World) (hp : Bytes w A p) (hl : p.length ≤ 2305843009213693951) :
    Calls Try.prog 45 #[.slice A p.length c] w fun e w' => e = .returned (.agg (c8 (sha p)).toArray) ∧ w.grownBy w' none := by
  go_enter Try.func45, Try.ntmps45
  go_wp2_with (refine wp_alloc (o := ⟨some 2, _, _, _, _, _⟩) rfl 26 rfl _ alloc_d32 ?_)
  intro w1 hd1 hg1 hz1
  clear hz1
  go_wp2_with fail
  refine (rnew_any _).mono ?_
  rintro e w2 ⟨rfl, hg2⟩
  have hd2 := hd1.grown hg2 (by simp)
  have hg02 := grownBy_trans hg1 hg2
  clear hd1 hg1 hg2
  go_wp2_with fail
  refine (rwrite_any 0 0 c none A begin0 [] p _ (Bytes.nil _ _) (by simp) (hp.keep hg02) (by omega) (by omega)).mono ?_
  rintro e w3 ⟨A3, c3, rfl, hb3, hg3⟩
  have hd3 := hd2.grown hg3 (by simp)
  have hg03 := grownBy_trans hg02 hg3
  clear hd2 hg02 hg3
  obtain ⟨⟨v3, t3⟩, hf3⟩ : ∃ x, feed (begin0, []) p = x := ⟨_, rfl⟩
  have htl : t3.length < 64 := by have := feed_tail_lt (begin0, []) p (by simp); rw [hf3] at this; exact this
  have htn : t3.length = p.length % 64 := by have := feed_tail_len (begin0, []) p (by simp); rw [hf3] at this; simpa using this
  simp only [hf3] at hb3
  have hcl := rclose_any p.length c3 A3 v3 t3 w3 hb3 htl hl htn
  have HF := Lib.hid hf3
  have HCL := Lib.hid hcl
  clear htn hcl
  simp only [hf3, Nat.zero_add]
  clear hf3
  go_wp2_with fail
  refine HCL.out.mono ?_
  rintro e w4 ⟨rfl, hg4⟩
  have hd4 := Lib.hid (hd3.grown hg4 (by simp))
  have hg04 := grownBy_trans hg03 hg4
  obtain ⟨D, hD⟩ : ∃ D, D = closeOf (v3, t3) p.length := ⟨_, rfl⟩
  have hDl : D.length = 32 := by rw [hD]; exact bytesOf_length _
  rw [← hD]
  have HD := Lib.hid hD
  have hlb := Lib.hid (show (Try.prog.info? 26).map (·.size) = some (c8 D).length by rw [c8_length, hDl]; kernel_rfl)
  have hone := Lib.hid (one8 D)
  have hfit := Lib.hid (show 0 + (c8 D).length ≤ zd.length by rw [c8_length, hDl]; decide)
  clear hD hd3 hg03 hg4
  go_wp2_with (refine wp_storeAgg rfl 26 (.tmp 2) (.tmp 6) rfl w.heap.size 0 26 zd (c8 D) rfl rfl hd4.out hlb.out hfit.out hone.out ?_)
  intro w5 hdr hg5 _
  rw [splice_all (by rw [c8_length, hDl]; decide)] at hdr
  go_wp2
  refine bodyPost_ret (v := .agg (c8 D).toArray) (results_cell_row rfl _ _ w.heap.size _ _ _ _ rfl hdr Try.underlying26 rfl (by rw [List.size_toArray]; exact hlb.out)) rfl ⟨?_, grownBy_in hg04 hg5 (Nat.le_refl _)⟩
  rw [HD.out, ← HF.out]; rfl
end Go.Proofs.Ytpohjldhbaalbaa
