/- The contract of chain.Recover. -/
import Derived.Test.YtfaekebglijebaaSign
namespace Go.Proofs.Ytfaekebglijebaa
open Go.RowKit
set_option linter.unusedVariables false

set_option maxRecDepth 100000 in
set_option maxHeartbeats 4000000 in
theorem recover_any (key : Nat) (m l : List UInt8) (w : World) (hm : m.length = 32) (hl : l.length = 2144) (hk : key < 4294967296) :
    Calls Try.prog 19 #[.int .u32 (key : Int), .agg (c8 m).toArray, .agg (c8 l).toArray] w fun e w' => e = .returned (.agg (c8 (recoverL key m l)).toArray) ∧ w.grownBy w' none := by
  obtain ⟨k0, k1⟩ := secret_key hk
  have HL := Lib.hid hl
  have HKY := Lib.hid hk
  have HMD := Lib.hid (info_dg m hm)
  have hdig := fun W => digits_any m W hm
  have hdc := dig_cells' m
  have hdl := digitsL_length m
  obtain ⟨DG, hDG⟩ : ∃ DG, DG = digitsL m := ⟨_, rfl⟩
  rw [← hDG] at hdig hdc hdl
  have HDC := Lib.hid hdc
  have HT := Lib.hid (fun c (hc : c < 67) => topL_length key m l c hl hc)
  have HCH := Lib.hid (fun c (hc : c < 67) => chunk32_length l c 67 hl hc)
  clear hl hk hm hdc hdl hDG
  go_enter Try.func19, Try.ntmps19
  go_wp2_with (refine wp_box (o := ⟨some 4, _, _, _, _, _⟩) rfl 24 (.tmp 1) rfl (c8 m) rfl ?_)
  intro w1 hr hg hz
  clear hz
  have hS1 := ((Own.start w)).new hr hg
  clear hr hg
  go_wp2_with (refine wp_box (o := ⟨some 5, _, _, _, _, _⟩) rfl 47 (.tmp 2) rfl (c8 l) rfl ?_)
  intro w2 hr hg hz
  clear hz
  have hS2 := (hS1).new hr hg
  clear hr hg
  go_wp2_with (refine wp_alloc (o := ⟨some 6, _, _, _, _, _⟩) rfl 24 rfl _ alloc_d ?_)
  intro w3 hr hg hz
  clear hz
  have hS3 := hS2.new hr hg
  clear hr hg
  clear hS1 hS2
  go_wp2_with (first | (refine wp_load rfl 24 (.tmp 4) rfl Try.underlying24 rfl ⟨w.heap.size, 0, none⟩ rfl (c8 m) HMD.out (row_all (hS3.row 2 rfl)) ?_))
  refine (hdig _).mono ?_
  rintro e w5 ⟨rfl, hg⟩
  have hS5 := hS3.call hg
  clear hg hS3
  clear hdig
  go_wp2
  go_loopw [11] (fun iv wr => ∃ k : Nat, k ≤ 67 ∧ iv = .int .i64 (k : Int) ∧ Own w wr [rowE w2.heap.size 24 zd, rowE w1.heap.size 47 (c8 (mx (topL key m l) l k)), rowE w.heap.size 24 (c8 m)]) (fun iv _ => 67 - (intOf iv).toNat)
  case atStart => exact ⟨0, by omega, rfl, by rw [mx_zero]; exact hS5⟩
  case round =>
    clear hS5
    obtain ⟨k, hk, rfl, hS⟩ := hrel
    by_cases hlt : k < 67
    · have q1 : (k : Int) < 67 := by omega
      have hf : ∀ c, c < k → (topL key m l c).length = 32 := fun c hc => HT.out c (by omega)
      have hml := mx_length (topL key m l) l k hf hk HL.out
      have hst := mx_step (topL key m l) l k hf (HT.out k hlt)
      have hch := mx_chunk (topL key m l) l k hf
      have hrow := row_chunk (hS.row 1 rfl) k
      have hcl := fun W => climb_any key (u8c k) (chunk32 l k) (digN67 m k) 15 W (HCH.out k hlt) HKY.out (by have := digN67_lt m k; omega) (by omega)
      obtain ⟨hd16, hdcell⟩ := HDC.out k hlt
      have hXl := HT.out k hlt
      have hCl := HCH.out k hlt
      rw [u8c_n8 k (by omega)] at hcl
      obtain ⟨X, hX⟩ : ∃ X, X = topL key m l k := ⟨_, rfl⟩
      rw [show climbL key (u8c k) (15 - digN67 m k) (digN67 m k) (chunk32 l k) = X from hX.symm] at hcl
      rw [← hX] at hst hXl
      rw [hch] at hrow
      obtain ⟨Cx, hCx⟩ : ∃ Cx, Cx = chunk32 l k := ⟨_, rfl⟩
      rw [← hCx] at hcl hrow hCl
      obtain ⟨d, hd⟩ : ∃ d, d = digN67 m k := ⟨_, rfl⟩
      rw [← hd] at hcl hd16 hdcell
      have d0 : (0 : Int) ≤ (d : Int) := by omega
      have d1 : (d : Int) < 16 := by omega
      have hix : ∀ W, (Instr.index 31 (.agg (c8 DG).toArray) (.int .i64 (k : Int))).run Try.prog W = .ok (.int .u8 (d : Int)) W := fun W => run_index_agg W Try.underlying31 Try.underlying5 rfl (by kernel_rfl) _ k hlt _ hdcell
      have HST := Lib.hid hst
      have HROW := Lib.hid hrow
      have HFL := Lib.hid (show k * 32 + (c8 X).length ≤ (c8 (mx (topL key m l) l k)).length by rw [c8_length, c8_length, hml, hXl]; omega)
      have HXD := Lib.hid (info_dg X hXl)
      have HCD := Lib.hid (info_dg Cx hCl)
      have HK := Lib.hid (show k < 67 from hlt)
      clear hX hst hXl hml hlt hk hch hrow hf hCx hCl hd hd16 hdcell
      go_wp2_with (refine wp_load rfl 24 (.tmp 21) rfl Try.underlying24 rfl ⟨w1.heap.size, k * 32, none⟩ rfl (c8 Cx) HCD.out HROW.out ?_)
      go_wp2_with fail
      refine (hcl _).mono ?_
      rintro e w6 ⟨rfl, hg⟩
      have hS6 := hS.call hg
      clear hg hS
      clear hcl hix HROW
      go_wp2_with (refine wp_storeAgg rfl 24 (.tmp 28) (.tmp 26) rfl w1.heap.size (k * 32) 47 (c8 (mx (topL key m l) l k)) (c8 X) rfl rfl (hS6.row 1 rfl) HXD.out HFL.out (one8 _) ?_)
      intro w7 hr hg hz
      clear hz
      rw [HST.out] at hr
      have hS7 := hS6.setRow 1 rfl hr hg
      clear hS6 hr hg
      go_wp2
      go_roundw
      case rel => exact ⟨k + 1, by have := HK.out; omega, by go_num, hS7⟩
      case measure => simp [intOf] <;> omega
    · obtain rfl : k = 67 := by omega
      rw [mx_full _ _ HL.out] at hS
      have hEl := topsL_length key m l HL.out
      have hpub : pressL (flatN (topL key m l) 67) = recoverL key m l := rfl
      obtain ⟨E, hE⟩ : ∃ E, E = flatN (topL key m l) 67 := ⟨_, rfl⟩
      have hEl' : E.length = 2144 := by rw [hE]; exact hEl
      rw [← hE] at hS hpub
      obtain ⟨D, hD⟩ : ∃ D, D = pressL E := ⟨_, rfl⟩
      have hp := fun W hr => press_any w1.heap.size E W hr hEl'
      have hDl : D.length = 32 := by rw [hD]; exact sha_length _
      rw [← hD] at hp hpub
      have HRES := Lib.hid hpub
      have HFIT := Lib.hid (show 0 + (c8 D).length ≤ zd.length by rw [c8_length, hDl]; decide)
      have HEQ := Lib.hid (show (c8 D).length = zd.length by rw [c8_length, hDl]; decide)
      have HI := Lib.hid (info_dg D hDl)
      have HPR := Lib.hid hp
      clear hE hEl hEl' hD hDl hpub hlt hk hp
      go_wp2_with fail
      refine (HPR.out _ (hS.row 1 rfl)).mono ?_
      rintro e w7 ⟨rfl, hg⟩
      have hS7 := hS.call hg
      clear hg hS
      go_wp2_with (refine wp_storeAgg rfl 24 (.tmp 6) (.tmp 30) rfl w2.heap.size 0 24 zd (c8 (D)) rfl rfl (hS7.row 0 rfl) (by simpa using HI.out) HFIT.out (one8 _) ?_)
      intro wz hdr hgz _
      rw [splice_all HEQ.out] at hdr
      have hSz := hS7.setRow 0 rfl hdr hgz
      clear hdr hgz hS7
      go_wp2
      refine bodyPost_ret (v := .agg (c8 (D)).toArray) (results_cell_row rfl _ _ w2.heap.size _ _ _ _ rfl (hSz.row 0 rfl) Try.underlying24 rfl (by simpa using HI.out)) rfl ⟨(by rw [HRES.out]), hSz.grown⟩
end Go.Proofs.Ytfaekebglijebaa
