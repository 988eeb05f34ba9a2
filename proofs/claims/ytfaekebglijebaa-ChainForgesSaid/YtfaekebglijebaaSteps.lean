/- The contracts of chain.Secret and chain.Step. -/
import Derived.Test.YtfaekebglijebaaOwn4
import Derived.Test.YtfaekebglijebaaChainLaw
namespace Go.Proofs.Ytfaekebglijebaa
open Go.RowKit
set_option linter.unusedVariables false

theorem secret_key {key : Nat} (h : key < 4294967296) : (0 : Int) ≤ (key : Int) ∧ (key : Int) ≤ 4294967295 := by omega

set_option maxRecDepth 100000 in
set_option maxHeartbeats 2000000 in
theorem secret_any (seed : List UInt8) (key : Nat) (c : UInt8) (w : World) (hs : seed.length = 32) (hk : key < 4294967296) :
    Calls Try.prog 15 #[.agg (c8 seed).toArray, .int .u32 (key : Int), .int .u8 (n8 c)] w fun e w' => e = .returned (.agg (c8 (secretL seed key c)).toArray) ∧ w.grownBy w' none := by
  obtain ⟨k0, k1⟩ := secret_key hk
  have b1 := n8_lo c
  have b2 := n8_hi c
  have HL := Lib.hid hs
  have HK := Lib.hid hk
  clear hs hk
  go_enter Try.func15, Try.ntmps15
  go_wp2_with (refine wp_box (o := ⟨some 3, _, _, _, _, _⟩) rfl 24 (.tmp 0) rfl (c8 seed) rfl ?_)
  intro w1 hr hg hz
  clear hz
  have hS1 := ((Own.start w)).new hr hg
  clear hr hg
  go_wp2_with (refine wp_alloc (o := ⟨some 6, _, _, _, _, _⟩) rfl 24 rfl _ alloc_d ?_)
  intro w2 hr hg hz
  clear hz
  have hS2 := hS1.new hr hg
  clear hr hg
  have hB := hS2.built 5 [4] (by simp)
  clear hS1 hS2
  go_wp2_with (refine wp_appB rfl (.tmp 8) (.tmp 9) 63 rfl 5 Try.underlying63 info_u8 ([4]) (4 :: seed) rfl (hB.bytes 0 rfl) _ 32 32 (seed) rfl (src_row (hB.row 2 rfl)) HL.out (by simp) (by rw [HL.out]; simp) hB.size ?_)
  intro v' w3 ho hg hv
  have hS3 := hB.appendB 0 rfl ho hg (by first | exact hv | simpa using hv)
  clear ho hg hv hB
  go_wp2_with fail
  refine (put_octI _ _ key 4 _ (by simp) rfl (by omega) (by omega) (by have := HK.out; omega)).mono ?_
  rintro e w4 ⟨rfl, hr, hg⟩
  have hS4 := hS3.new hr hg
  clear hg hS3
  go_wp2_with (refine wp_appB rfl (.tmp 11) (.tmp 14) 63 rfl 5 Try.underlying63 info_u8 (4 :: seed) (4 :: (seed ++ beBytes key 4)) rfl (hS4.bytes 1 rfl) _ 4 4 (beBytes key 4) rfl (src_row (hS4.row 0 rfl)) (beBytes_length _ _) (by simp) (by simp [HL.out, beBytes_length]) hS4.size ?_)
  intro v' w5 ho hg hv
  have hS5 := hS4.appendB 1 rfl ho hg (by first | exact hv | simpa using hv)
  clear ho hg hv hS4
  have hB := hS5.built 5 [c] (by simp)
  clear hS5
  go_wp2_with (refine wp_appB rfl (.tmp 16) (.tmp 18) 63 rfl 5 Try.underlying63 info_u8 (4 :: (seed ++ beBytes key 4)) (4 :: (seed ++ (beBytes key 4 ++ [c]))) rfl (hB.bytes 2 rfl) _ 1 1 ([c]) rfl (src_own (hB.bytes 0 rfl)) rfl (by simp) (by simp [HL.out, beBytes_length]) hB.size ?_)
  intro v' w6 ho hg hv
  have hS6 := hB.appendB 2 rfl ho hg (by first | exact hv | simpa using hv)
  clear ho hg hv hB
  obtain ⟨P, hP⟩ : ∃ P, P = 4 :: (seed ++ (beBytes key 4 ++ [c])) := ⟨_, rfl⟩
  have hlP : P.length = 38 := by rw [hP]; simp [HL.out, beBytes_length]
  rw [← hP] at hS6
  have HP := Lib.hid hP
  have HLP := Lib.hid hlP
  clear hP hlP
  obtain ⟨A, cp, rfl, hbp, hc1, hc2⟩ := own_open (hS6.bytes 2 rfl)
  have HBP := Lib.hid hbp
  clear hbp
  go_wp2_with fail
  refine (dsum_any cp A P _ HBP.out hc1 hc2 (by rw [HLP.out]; omega)).mono ?_
  rintro e w7 ⟨rfl, hg⟩
  have hS7 := hS6.call hg
  clear hg hS6
  obtain ⟨D, hD⟩ : ∃ D, D = sha P := ⟨_, rfl⟩
  rw [← hD]
  have hl := sha_length P
  rw [← hD] at hl
  have HFIT := Lib.hid (show 0 + (c8 D).length ≤ zd.length by rw [c8_length, hl]; decide)
  have HEQ := Lib.hid (show (c8 D).length = zd.length by rw [c8_length, hl]; decide)
  have HI := Lib.hid (info_dg D hl)
  have hres : D = secretL seed key c := by rw [hD, HP.out]; rfl
  have HRES := Lib.hid hres
  clear hD hl hres
  go_wp2_with (refine wp_storeAgg rfl 24 (.tmp 6) (.tmp 20) rfl w1.heap.size 0 24 zd (c8 (D)) rfl rfl (hS7.row 3 rfl) (by simpa using HI.out) HFIT.out (one8 _) ?_)
  intro wz hdr hgz _
  rw [splice_all HEQ.out] at hdr
  have hSz := hS7.setRow 3 rfl hdr hgz
  clear hdr hgz hS7
  go_wp2
  refine bodyPost_ret (v := .agg (c8 (D)).toArray) (results_cell_row rfl _ _ w1.heap.size _ _ _ _ rfl (hSz.row 3 rfl) Try.underlying24 rfl (by simpa using HI.out)) rfl ⟨(by rw [HRES.out]), hSz.grown⟩

/-- a place's cells -/
def placeC (key : Nat) (c s : UInt8) : List Value := [.int .u32 (key : Int), .int .u8 (n8 c), .int .u8 (n8 s)]
set_option maxRecDepth 100000 in
set_option maxHeartbeats 2000000 in
theorem step_any (key : Nat) (c s : UInt8) (x : List UInt8) (w : World) (hx : x.length = 32) (hk : key < 4294967296) :
    Calls Try.prog 17 #[.agg (placeC key c s).toArray, .agg (c8 x).toArray] w fun e w' => e = .returned (.agg (c8 (stepL key c s x)).toArray) ∧ w.grownBy w' none := by
  obtain ⟨k0, k1⟩ := secret_key hk
  have b1 := n8_lo c
  have b2 := n8_hi c
  have b3 := n8_lo s
  have b4 := n8_hi s
  have HL := Lib.hid hx
  have HK := Lib.hid hk
  clear hx hk
  go_enter Try.func17, Try.ntmps17
  go_wp2_with (refine wp_box (o := ⟨some 2, _, _, _, _, _⟩) rfl 41 (.tmp 0) rfl (placeC key c s) rfl ?_)
  intro w1 hr hg hz
  clear hz
  have hS1 := ((Own.start w)).new hr hg
  clear hr hg
  go_wp2_with (refine wp_box (o := ⟨some 3, _, _, _, _, _⟩) rfl 24 (.tmp 1) rfl (c8 x) rfl ?_)
  intro w2 hr hg hz
  clear hz
  have hS2 := (hS1).new hr hg
  clear hr hg
  go_wp2_with (refine wp_alloc (o := ⟨some 4, _, _, _, _, _⟩) rfl 24 rfl _ alloc_d ?_)
  intro w3 hr hg hz
  clear hz
  have hS3 := hS2.new hr hg
  clear hr hg
  clear hS1 hS2
  go_wp2_with (refine wp_roomB (o := ⟨some 6, _, _, _, _, _⟩) rfl 63 (.const (.int .i64 0)) (.const (.int .i64 39)) rfl 5 Try.underlying63 info_u8 39 rfl rfl (by omega) hS3 ?_)
  intro v4 w4 hS4
  clear hS3
  have hB := hS4.built 5 [2] (by simp)
  clear hS4
  go_wp2_with (refine wp_appB rfl (.tmp 6) (.tmp 7) 63 rfl 5 Try.underlying63 info_u8 ([]) ([2]) rfl (hB.bytes 1 rfl) _ 1 1 ([2]) rfl (src_own (hB.bytes 0 rfl)) rfl (by simp) (by simp <;> omega) hB.size ?_)
  intro v' w5 ho hg hv
  have hS5 := hB.appendB 1 rfl ho hg (by first | exact hv | simpa using hv)
  clear ho hg hv hB
  have hcs := (hS5.row 4 rfl)
  have c0 := hcs.cell 0
  have c1 := hcs.cell 1
  have c2 := hcs.cell 2
  simp only [placeC, List.getElem?_cons_zero, List.getElem?_cons_succ] at c0 c1 c2
  clear hcs
  go_wp2_with fail
  refine (put_octI _ _ key 4 _ (by simp) rfl (by omega) (by omega) (by have := HK.out; omega)).mono ?_
  rintro e w6 ⟨rfl, hr, hg⟩
  have hS6 := hS5.new hr hg
  clear hg hS5
  clear c0 c1 c2
  go_wp2_with (refine wp_appB rfl (.tmp 9) (.tmp 13) 63 rfl 5 Try.underlying63 info_u8 ([2]) (2 :: beBytes key 4) rfl (hS6.bytes 2 rfl) _ 4 4 (beBytes key 4) rfl (src_row (hS6.row 0 rfl)) (beBytes_length _ _) (by simp) (by simp [beBytes_length]) hS6.size ?_)
  intro v' w7 ho hg hv
  have hS7 := hS6.appendB 2 rfl ho hg (by first | exact hv | simpa using hv)
  clear ho hg hv hS6
  have hcs := (hS7.row 5 rfl)
  have c1 := hcs.cell 1
  have c2 := hcs.cell 2
  simp only [placeC, List.getElem?_cons_zero, List.getElem?_cons_succ] at c1 c2
  clear hcs
  have hB := hS7.built 5 [c, s] (by simp)
  clear hS7
  go_wp2_with (refine wp_appB rfl (.tmp 15) (.tmp 20) 63 rfl 5 Try.underlying63 info_u8 (2 :: beBytes key 4) (2 :: (beBytes key 4 ++ [c, s])) rfl (hB.bytes 3 rfl) _ 2 2 ([c, s]) rfl (src_own (hB.bytes 0 rfl)) rfl (by simp) (by simp [beBytes_length]) hB.size ?_)
  intro v' w8 ho hg hv
  have hS8 := hB.appendB 3 rfl ho hg (by first | exact hv | simpa using hv)
  clear ho hg hv hB
  clear c1 c2
  go_wp2_with (refine wp_appB rfl (.tmp 22) (.tmp 23) 63 rfl 5 Try.underlying63 info_u8 (2 :: (beBytes key 4 ++ [c, s])) (stepB key c s x) rfl (hS8.bytes 3 rfl) _ 32 32 (x) rfl (src_row (hS8.row 5 rfl)) HL.out (by simp [stepB]) (by simp [beBytes_length, HL.out]) hS8.size ?_)
  intro v' w9 ho hg hv
  have hS9 := hS8.appendB 3 rfl ho hg (by first | exact hv | simpa using hv)
  clear ho hg hv hS8
  obtain ⟨P, hP⟩ : ∃ P, P = stepB key c s x := ⟨_, rfl⟩
  have hlP : P.length = 39 := by rw [hP]; simp [stepB, HL.out, beBytes_length]
  rw [← hP] at hS9
  have HP := Lib.hid hP
  have HLP := Lib.hid hlP
  clear hP hlP
  obtain ⟨A, cp, rfl, hbp, hc1, hc2⟩ := own_open (hS9.bytes 3 rfl)
  have HBP := Lib.hid hbp
  clear hbp
  go_wp2_with fail
  refine (dsum_any cp A P _ HBP.out hc1 hc2 (by rw [HLP.out]; omega)).mono ?_
  rintro e wA ⟨rfl, hg⟩
  have hSA := hS9.call hg
  clear hg hS9
  obtain ⟨D, hD⟩ : ∃ D, D = sha P := ⟨_, rfl⟩
  rw [← hD]
  have hl := sha_length P
  rw [← hD] at hl
  have HFIT := Lib.hid (show 0 + (c8 D).length ≤ zd.length by rw [c8_length, hl]; decide)
  have HEQ := Lib.hid (show (c8 D).length = zd.length by rw [c8_length, hl]; decide)
  have HI := Lib.hid (info_dg D hl)
  have HRES := Lib.hid (show D = stepL key c s x by rw [hD, HP.out]; rfl)
  clear hD hl
  go_wp2_with (refine wp_storeAgg rfl 24 (.tmp 4) (.tmp 25) rfl w2.heap.size 0 24 zd (c8 (D)) rfl rfl (hSA.row 4 rfl) (by simpa using HI.out) HFIT.out (one8 _) ?_)
  intro wz hdr hgz _
  rw [splice_all HEQ.out] at hdr
  have hSz := hSA.setRow 4 rfl hdr hgz
  clear hdr hgz hSA
  go_wp2
  refine bodyPost_ret (v := .agg (c8 (D)).toArray) (results_cell_row rfl _ _ w2.heap.size _ _ _ _ rfl (hSz.row 4 rfl) Try.underlying24 rfl (by simpa using HI.out)) rfl ⟨(by rw [HRES.out]), hSz.grown⟩
end Go.Proofs.Ytfaekebglijebaa
