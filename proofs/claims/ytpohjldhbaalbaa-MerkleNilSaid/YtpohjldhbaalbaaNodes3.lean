/- The contracts of Leaf, Node and Pair, the program's and the document's. -/
import Derived.Test.YtpohjldhbaalbaaOwn32
import Derived.Test.YtpohjldhbaalbaaMerkleLaw
import Derived.Test.YtpohjldhbaalbaaDag
namespace Go.Proofs.Ytpohjldhbaalbaa
set_option linter.unusedVariables false
set_option linter.unusedSimpArgs false
set_option linter.unusedSectionVars false
open Go.RowKit
set_option linter.unusedVariables false
theorem src_bytes {w : World} {A : Option Addr} {c : Nat} {p : List UInt8} (h : Bytes w A p) (hc : p.length ≤ c) (hn : A = none → c = 0) : Src w A c (c8 p) := by
  cases hA : A with
  | none =>
    have h0 := hn hA
    have : p = [] := List.eq_nil_of_length_eq_zero (by omega)
    subst this
    exact .inl ⟨rfl, rfl, h0⟩
  | some ad =>
    refine .inr ⟨ad, rfl, fun j u hu => ?_⟩
    have hj : j < p.length := by have := (List.getElem?_eq_some_iff.1 hu).1; simpa using this
    obtain ⟨b, off, hb, hcc⟩ := h (by omega)
    rw [hA] at hb
    injection hb with hb
    subst hb
    rw [addr_add, hcc j hj, ← c8_get _ j hj, hu]

set_option maxRecDepth 100000 in
set_option maxHeartbeats 2000000 in
theorem node_any (l r : List UInt8) (w : World) (hl : l.length = 32) (hr : r.length = 32) :
    Calls Try.prog 43 #[.agg (c8 l).toArray, .agg (c8 r).toArray] w fun e w' => e = .returned (.agg (c8 (nodeL l r)).toArray) ∧ w.grownBy w' none := by
  have HL := Lib.hid hl
  have HR := Lib.hid hr
  clear hl hr
  go_enter Try.func43, Try.ntmps43
  go_wp2_with (refine wp_box (o := ⟨some 2, _, _, _, _, _⟩) rfl 27 (.tmp 0) rfl (c8 l) rfl ?_)
  intro w1 hr hg hz
  clear hz
  have hS1 := ((Own.start w)).new hr hg
  clear hr hg
  go_wp2_with (refine wp_box (o := ⟨some 3, _, _, _, _, _⟩) rfl 27 (.tmp 1) rfl (c8 r) rfl ?_)
  intro w2 hr hg hz
  clear hz
  have hS2 := (hS1).new hr hg
  clear hr hg
  go_wp2_with (refine wp_alloc (o := ⟨some 4, _, _, _, _, _⟩) rfl 27 rfl _ alloc_d ?_)
  intro w3 hr hg hz
  clear hz
  have hS3 := hS2.new hr hg
  clear hr hg
  clear hS1 hS2
  go_wp2_with (refine wp_roomB (o := ⟨some 6, _, _, _, _, _⟩) rfl 23 (.const (.int .i64 0)) (.const (.int .i64 65)) rfl 5 Try.underlying23 info_u8 65 rfl rfl (by omega) hS3 ?_)
  intro v4 w4 hS4
  clear hS3
  have hB := hS4.built 5 [1] (by simp)
  clear hS4
  go_wp2_with (refine wp_appB rfl (.tmp 6) (.tmp 7) 23 rfl 5 Try.underlying23 info_u8 ([]) ([1]) rfl (hB.bytes 1 rfl) _ 1 1 ([1]) rfl (src_own (hB.bytes 0 rfl)) rfl (by simp) (by simp <;> omega) hB.size ?_)
  intro v' w5 ho hg hv
  have hS5 := hB.appendB 1 rfl ho hg (by first | exact hv | simpa using hv)
  clear ho hg hv hB
  have hS6 := hS5.tail
  clear hS5
  go_wp2
  have hS7 := hS6.drew
  clear hS6
  refine wp_region_mixC (fun W => Own w W []) (fun _ => true) [(0, true), (1, true), (3, true), (2, false), (4, false), (5, false), (6, false)] (by kernel_rfl) (by kernel_rfl) (hS7.sub (List.nil_sublist _)) ?_
  iterate 3 (refine wpMix_step rfl (fun K hK => ?_); go_simp; (try go_bits); with_reducible refine hK _ ?_; clear hK K)
  refine wpMix_loudW _ rfl rfl ?_
  go_wp2_with (refine wp_appB rfl (.tmp 9) (.tmp 10) 23 rfl 5 Try.underlying23 info_u8 ([1]) (1 :: l) rfl (hS7.bytes 0 rfl) _ 32 32 (l) rfl (src_row (hS7.row 3 rfl)) HL.out (by simp) (by rw [HL.out]; simp) hS7.size ?_)
  intro v' w8 ho hg hv
  have hS8 := hS7.appendB 0 rfl ho hg (by first | exact hv | simpa using hv)
  clear ho hg hv hS7
  go_wp2_with fail
  refine wpMix_next' (fun _ => hS8.sub (List.nil_sublist _)) ?_
  refine wpMix_loudW _ rfl rfl ?_
  go_wp2_with (refine wp_appB rfl (.tmp 11) (.tmp 12) 23 rfl 5 Try.underlying23 info_u8 (1 :: l) (nodeB l r) rfl (hS8.bytes 0 rfl) _ 32 32 (r) rfl (src_row (hS8.row 2 rfl)) HR.out (by simp [nodeB]) (by simp [HL.out, HR.out]) hS8.size ?_)
  intro v' w9 ho hg hv
  have hS9 := hS8.appendB 0 rfl ho hg (by first | exact hv | simpa using hv)
  clear ho hg hv hS8
  go_wp2_with fail
  refine wpMix_next' (fun _ => hS9.sub (List.nil_sublist _)) ?_
  obtain ⟨P, hP⟩ : ∃ P, P = nodeB l r := ⟨_, rfl⟩
  have hlP : P.length = 65 := by rw [hP]; simp [nodeB, HL.out, HR.out]
  rw [← hP] at hS9
  have HP := Lib.hid hP
  have HLP := Lib.hid hlP
  clear hP hlP
  obtain ⟨A, cp, rfl, hbp, hc1, hc2⟩ := own_open (hS9.bytes 0 rfl)
  have HBP := Lib.hid hbp
  clear hbp
  refine wpMix_loudW _ rfl rfl ?_
  go_wp2_with fail
  refine (dsum_any cp A P _ HBP.out hc1 hc2 (by rw [HLP.out]; omega)).mono ?_
  rintro e wA ⟨rfl, hg⟩
  have hSA := hS9.call hg
  clear hg hS9
  go_wp2_with fail
  refine wpMix_next' (fun _ => hSA.sub (List.nil_sublist _)) ?_
  obtain ⟨D, hD⟩ : ∃ D, D = sha P := ⟨_, rfl⟩
  rw [← hD]
  have hl := sha_length P
  rw [← hD] at hl
  have HFIT := Lib.hid (show 0 + (c8 D).length ≤ zd.length by rw [c8_length, hl]; decide)
  have HEQ := Lib.hid (show (c8 D).length = zd.length by rw [c8_length, hl]; decide)
  have HI := Lib.hid (info_dg D hl)
  have HRES := Lib.hid (show D = nodeL l r by rw [hD, HP.out]; rfl)
  clear hD hl
  refine wpMix_loudW _ rfl rfl ?_
  go_wp2_with (refine wp_storeAgg rfl 27 (.tmp 4) (.tmp 14) rfl w2.heap.size 0 27 zd (c8 D) rfl rfl (hSA.row 1 rfl) (by simpa using HI.out) HFIT.out (one8 _) ?_)
  intro wz hdr hgz _
  rw [splice_all HEQ.out] at hdr
  have hSz := hSA.setRow 1 rfl hdr hgz
  clear hdr hgz hSA
  go_wp2_with fail
  refine wpMix_next' (fun _ => hSz.sub (List.nil_sublist _)) ?_
  unfold wpMix
  go_wp2
  refine bodyPost_ret (v := .agg (c8 D).toArray) (results_cell_row rfl _ _ w2.heap.size _ _ _ _ rfl (hSz.row 1 rfl) Try.underlying27 rfl (by simpa using HI.out)) rfl ⟨by rw [HRES.out], hSz.grown⟩

set_option maxRecDepth 100000 in
set_option maxHeartbeats 2000000 in
theorem leaf_any (A : Option Addr) (c : Nat) (p : List UInt8) (w : World) (hp : Bytes w A p) (hc : p.length ≤ c) (hn : A = none → c = 0) (hr : c ≤ 140737488351232) :
    Calls Try.prog 15 #[.slice A p.length c] w fun e w' => e = .returned (.agg (c8 (leafL p)).toArray) ∧ w.grownBy w' none := by
  have HP := Lib.hid hp
  have HC := Lib.hid hc
  have HN := Lib.hid hn
  have HR := Lib.hid hr
  clear hp hc hn hr
  obtain ⟨m, hm⟩ : ∃ m, m = p.length := ⟨_, rfl⟩
  rw [← hm]
  have HM := Lib.hid hm
  clear hm
  go_enter Try.func15, Try.ntmps15
  go_wp2_with (refine wp_alloc (o := ⟨some 2, _, _, _, _, _⟩) rfl 27 rfl _ alloc_d ?_)
  intro w1 hr hg hz
  clear hz
  have hS1 := (Own.start w).new hr hg
  clear hr hg
  have hB := hS1.built 5 [0] (by simp)
  clear hS1
  go_wp2_with (refine wp_appB rfl (.tmp 3) (.tmp 4) 23 rfl 5 Try.underlying23 info_u8 ([0]) (0 :: p) rfl (hB.bytes 0 rfl) _ m c (p) rfl (src_bytes (HP.out.keep hB.grown) HC.out HN.out) HM.out.symm (by simp) (by have := HC.out; have := HR.out; simp <;> omega) hB.size ?_)
  intro v' w3 ho hg hv
  have hS3 := hB.appendB 0 rfl ho hg (by first | exact hv | simpa using hv)
  clear ho hg hv hB
  obtain ⟨P, hP⟩ : ∃ P, P = 0 :: p := ⟨_, rfl⟩
  have hlP : P.length ≤ 140737488351233 := by have := HC.out; have := HR.out; rw [hP]; simp; omega
  rw [← hP] at hS3
  have HPP := Lib.hid hP
  have HLP := Lib.hid hlP
  clear hP hlP
  obtain ⟨AP, cp, rfl, hbp, hc1, hc2⟩ := own_open (hS3.bytes 0 rfl)
  have HBP := Lib.hid hbp
  clear hbp
  obtain ⟨mm, hmm⟩ : ∃ mm, mm = P.length := ⟨_, rfl⟩
  have hd := dsum_any cp AP P _ HBP.out hc1 hc2 (by have := HLP.out; omega)
  rw [← hmm] at hd hc1 ⊢
  clear hmm
  go_wp2_with fail
  refine (hd).mono ?_
  rintro e w4 ⟨rfl, hg⟩
  have hS4 := hS3.call hg
  clear hg hS3
  obtain ⟨D, hD⟩ : ∃ D, D = sha P := ⟨_, rfl⟩
  rw [← hD]
  have hl := sha_length P
  rw [← hD] at hl
  have HFIT := Lib.hid (show 0 + (c8 D).length ≤ zd.length by rw [c8_length, hl]; decide)
  have HEQ := Lib.hid (show (c8 D).length = zd.length by rw [c8_length, hl]; decide)
  have HI := Lib.hid (info_dg D hl)
  have HRES := Lib.hid (show D = leafL p by rw [hD, HPP.out]; rfl)
  clear hD hl
  go_wp2_with (refine wp_storeAgg rfl 27 (.tmp 2) (.tmp 6) rfl w.heap.size 0 27 zd (c8 (D)) rfl rfl (hS4.row 1 rfl) (by simpa using HI.out) HFIT.out (one8 _) ?_)
  intro wz hdr hgz _
  rw [splice_all HEQ.out] at hdr
  have hSz := hS4.setRow 1 rfl hdr hgz
  clear hdr hgz hS4
  go_wp2
  refine bodyPost_ret (v := .agg (c8 (D)).toArray) (results_cell_row rfl _ _ w.heap.size _ _ _ _ rfl (hSz.row 1 rfl) Try.underlying27 rfl (by simpa using HI.out)) rfl ⟨(by rw [HRES.out]), hSz.grown⟩

set_option maxRecDepth 100000 in
set_option maxHeartbeats 2000000 in
theorem rleaf_any (A : Option Addr) (c : Nat) (p : List UInt8) (w : World) (hp : Bytes w A p) (hc : p.length ≤ c) (hr : c ≤ 140737488351232) :
    Calls Try.prog 16 #[.slice A p.length c] w fun e w' => e = .returned (.agg (c8 (leafL p)).toArray) ∧ w.grownBy w' none := by
  have HP := Lib.hid hp
  have HC := Lib.hid hc
  have HR := Lib.hid hr
  clear hp hc hr
  obtain ⟨m, hm⟩ : ∃ m, m = p.length := ⟨_, rfl⟩
  rw [← hm]
  have m1 : (m : Int) ≤ 140737488351232 := by have := HC.out; have := HR.out; omega
  have m0 : (0 : Int) ≤ (m : Int) := by omega
  have HM := Lib.hid hm
  clear hm
  go_enter Try.func16, Try.ntmps16
  go_wp2_with (refine wp_alloc (o := ⟨some 2, _, _, _, _, _⟩) rfl 26 rfl _ alloc_d32 ?_)
  intro w1 hr hg hz
  clear hz
  have hS1 := (Own.start w).new hr hg
  clear hr hg
  have hB := hS1.built 5 [0] (by simp)
  clear hS1
  go_wp2
  go_loopw [3, 4] (fun sv iv wr => ∃ k : Nat, k ≤ m ∧ iv = .int .i64 (k : Int) ∧ Own w wr [bytesE w.heap.size 5 sv (0 :: p.take k), rowE w.heap.size 26 zd]) (fun _ iv _ => m - (intOf iv).toNat)
  case atStart => exact ⟨0, by omega, rfl, hB⟩
  case round =>
    clear hB
    obtain ⟨k, hk, rfl, hS⟩ := hrel
    by_cases hlt : k < m
    · have hkp : k < p.length := by have := HM.out; omega
      obtain ⟨b, off, rfl, hcc⟩ := (HP.out.keep hS.grown) (by omega)
      have c0 := hcc k hkp
      obtain ⟨y, hy⟩ : ∃ y, y = p.getD k 0 := ⟨_, rfl⟩
      rw [← hy] at c0
      have HT := Lib.hid (show 0 :: p.take (k + 1) = (0 :: p.take k) ++ [y] by rw [take_snoc8 p k hkp, ← hy]; rfl)
      have HTL := Lib.hid (show (0 :: p.take k).length + [y].length ≤ 140737488355328 by simp; omega)
      have HK := Lib.hid (show k < m from hlt)
      have q1 : (k : Int) < (m : Int) := by omega
      clear hy hcc hkp hlt hk
      have hB := hS.built 5 [y] (by simp)
      clear hS
      go_wp2_with (refine wp_appB rfl (.tmp 12) (.tmp 17) 23 rfl 5 Try.underlying23 info_u8 (0 :: p.take k) (0 :: p.take (k + 1)) rfl (hB.bytes 1 rfl) _ 1 1 ([y]) rfl (src_own (hB.bytes 0 rfl)) rfl HT.out HTL.out hB.size ?_)
      intro v' w5 ho hg hv
      have hS1 := hB.appendB 1 rfl ho hg (by first | exact hv | simpa using hv)
      clear ho hg hv hB
      have hS2 := hS1.tail
      clear hS1 c0
      go_wp2
      go_roundw
      case rel => exact ⟨k + 1, by have := HK.out; omega, by go_num, hS2⟩
      case measure => have := HK.out; simp [intOf] <;> omega
    · obtain rfl : k = m := by omega
      rw [List.take_of_length_le (by rw [HM.out]; exact Nat.le_refl _)] at hS
      clear hlt hk
      obtain ⟨P, hP⟩ : ∃ P, P = 0 :: p := ⟨_, rfl⟩
      have hlP : P.length ≤ 140737488351233 := by have := HC.out; have := HR.out; rw [hP]; simp; omega
      rw [← hP] at hS
      have HPP := Lib.hid hP
      have HLP := Lib.hid hlP
      clear hP hlP
      obtain ⟨AP, cp, rfl, hbp, hc1, hc2⟩ := own_open (hS.bytes 0 rfl)
      have HBP := Lib.hid hbp
      clear hbp
      obtain ⟨mm, hmm⟩ : ∃ mm, mm = P.length := ⟨_, rfl⟩
      have hd := fun W hb => rsum_any cp AP P W hb (by have := HLP.out; omega)
      rw [← hmm] at hd hc1 ⊢
      clear hmm
      go_wp2_with fail
      refine (hd _ HBP.out).mono ?_
      rintro e w4 ⟨rfl, hg⟩
      have hS4 := hS.call hg
      clear hg hS
      clear hd
      obtain ⟨D, hD⟩ : ∃ D, D = sha P := ⟨_, rfl⟩
      rw [← hD]
      have hl := sha_length P
      rw [← hD] at hl
      have HFIT := Lib.hid (show 0 + (c8 D).length ≤ zd.length by rw [c8_length, hl]; decide)
      have HEQ := Lib.hid (show (c8 D).length = zd.length by rw [c8_length, hl]; decide)
      have HI := Lib.hid (info_a32 D hl)
      have HRES := Lib.hid (show D = leafL p by rw [hD, HPP.out]; rfl)
      clear hD hl
      go_wp2_with (refine wp_storeAgg rfl 26 (.tmp 2) (.tmp 20) rfl w.heap.size 0 26 zd (c8 (D)) rfl rfl (hS4.row 1 rfl) (by simpa using HI.out) HFIT.out (one8 _) ?_)
      intro wz hdr hgz _
      rw [splice_all HEQ.out] at hdr
      have hSz := hS4.setRow 1 rfl hdr hgz
      clear hdr hgz hS4
      go_wp2
      refine bodyPost_ret (v := .agg (c8 (D)).toArray) (results_cell_row rfl _ _ w.heap.size _ _ _ _ rfl (hSz.row 1 rfl) Try.underlying26 rfl (by simpa using HI.out)) rfl ⟨(by rw [HRES.out]), hSz.grown⟩

set_option maxRecDepth 100000 in
set_option maxHeartbeats 4000000 in
theorem rpair_any (l r : List UInt8) (w : World) (hl : l.length = 32) (hr : r.length = 32) :
    Calls Try.prog 51 #[.agg (c8 l).toArray, .agg (c8 r).toArray] w fun e w' => ∃ v, e = .returned v ∧ OwnsB w' w.heap.size 5 v (nodeB l r) ∧ w.grownBy w' none := by
  have HL := Lib.hid hl
  have HR := Lib.hid hr
  clear hl hr
  go_enter Try.func51, Try.ntmps51
  go_wp2_with (refine wp_box (o := ⟨some 2, _, _, _, _, _⟩) rfl 26 (.tmp 0) rfl (c8 l) rfl ?_)
  intro w1 hr hg hz
  clear hz
  have hS1 := ((Own.start w)).new hr hg
  clear hr hg
  go_wp2_with (refine wp_box (o := ⟨some 3, _, _, _, _, _⟩) rfl 26 (.tmp 1) rfl (c8 r) rfl ?_)
  intro w2 hr hg hz
  clear hz
  have hS2 := (hS1).new hr hg
  clear hr hg
  have hB := hS2.built 5 [1] (by simp)
  clear hS1 hS2
  go_wp2
  go_loopw [5, 6] (fun sv iv wr => ∃ k : Nat, k ≤ 32 ∧ iv = .int .i64 (k : Int) ∧ Own w wr [bytesE w.heap.size 5 sv (1 :: l.take k), rowE w1.heap.size 26 (c8 r), rowE w.heap.size 26 (c8 l)]) (fun _ iv _ => 32 - (intOf iv).toNat)
  case atStart => exact ⟨0, by omega, rfl, hB⟩
  case round =>
    clear hB
    obtain ⟨k, hk, rfl, hS⟩ := hrel
    by_cases hlt : k < 32
    · have c0 := (hS.row 2 rfl).cell k
      obtain ⟨y, hy⟩ : ∃ y, y = l.getD k 0 := ⟨_, rfl⟩
      rw [c8_get _ k (by rw [HL.out]; exact hlt), ← hy] at c0
      have HT := Lib.hid (show 1 :: l.take (k + 1) = (1 :: l.take k) ++ [y] by rw [take_snoc8 l k (by rw [HL.out]; exact hlt), ← hy]; rfl)
      have HTL := Lib.hid (show (1 :: l.take k).length + [y].length ≤ 140737488355328 by simp [HL.out]; omega)
      clear hy
      have q1 : (k : Int) < 32 := by omega
      have hB := hS.built 5 [y] (by simp)
      clear hS
      go_wp2_with (refine wp_appB rfl (.tmp 13) (.tmp 17) 23 rfl 5 Try.underlying23 info_u8 (1 :: l.take k) (1 :: l.take (k + 1)) rfl (hB.bytes 1 rfl) _ 1 1 ([y]) rfl (src_own (hB.bytes 0 rfl)) rfl HT.out HTL.out hB.size ?_)
      intro v' w5 ho hg hv
      have hS1 := hB.appendB 1 rfl ho hg (by first | exact hv | simpa using hv)
      clear ho hg hv hB
      have hS2 := hS1.tail
      clear hS1 c0
      go_wp2
      go_roundw
      case rel => exact ⟨k + 1, by omega, by go_num, hS2⟩
      case measure => simp [intOf] <;> omega
    · obtain rfl : k = 32 := by omega
      have q1 : (32 : Int) ≤ 32 := by omega
      rw [List.take_of_length_le (by rw [HL.out]; omega)] at hS
      clear hlt hk
      go_wp2
      go_loopw [5, 7] (fun sv iv wr => ∃ k : Nat, k ≤ 32 ∧ iv = .int .i64 (k : Int) ∧ Own w wr [bytesE w.heap.size 5 sv ((1 :: l) ++ r.take k), rowE w1.heap.size 26 (c8 r), rowE w.heap.size 26 (c8 l)]) (fun _ iv _ => 32 - (intOf iv).toNat)
      case atStart => exact ⟨0, by omega, rfl, by simpa using hS⟩
      case round =>
        clear hS
        obtain ⟨k, hk, rfl, hS⟩ := hrel
        by_cases hlt : k < 32
        · have c0 := (hS.row 1 rfl).cell k
          obtain ⟨y, hy⟩ : ∃ y, y = r.getD k 0 := ⟨_, rfl⟩
          rw [c8_get _ k (by rw [HR.out]; exact hlt), ← hy] at c0
          have HT := Lib.hid (show (1 :: l) ++ r.take (k + 1) = ((1 :: l) ++ r.take k) ++ [y] by rw [take_snoc8 r k (by rw [HR.out]; exact hlt), ← hy, List.append_assoc])
          have HTL := Lib.hid (show ((1 :: l) ++ r.take k).length + [y].length ≤ 140737488355328 by simp [HL.out, HR.out]; omega)
          clear hy
          have q2 : (k : Int) < 32 := by omega
          have hB := hS.built 5 [y] (by simp)
          clear hS
          go_wp2_with (refine wp_appB rfl (.tmp 23) (.tmp 27) 23 rfl 5 Try.underlying23 info_u8 ((1 :: l) ++ r.take k) ((1 :: l) ++ r.take (k + 1)) rfl (hB.bytes 1 rfl) _ 1 1 ([y]) rfl (src_own (hB.bytes 0 rfl)) rfl HT.out HTL.out hB.size ?_)
          intro v' w5 ho hg hv
          have hS1 := hB.appendB 1 rfl ho hg (by first | exact hv | simpa using hv)
          clear ho hg hv hB
          have hS2 := hS1.tail
          clear hS1 c0
          go_wp2
          go_roundw
          case rel => exact ⟨k + 1, by omega, by go_num, hS2⟩
          case measure => simp [intOf] <;> omega
        · obtain rfl : k = 32 := by omega
          rw [List.take_of_length_le (by rw [HR.out]; omega)] at hS
          clear hlt hk
          go_wp2
          go_ret
          exact ⟨_, rfl, hS.bytes 0 rfl, hS.grown⟩

set_option maxRecDepth 100000 in
set_option maxHeartbeats 2000000 in
theorem rnode_any (l r : List UInt8) (w : World) (hl : l.length = 32) (hr : r.length = 32) :
    Calls Try.prog 41 #[.agg (c8 l).toArray, .agg (c8 r).toArray] w fun e w' => e = .returned (.agg (c8 (nodeL l r)).toArray) ∧ w.grownBy w' none := by
  have IL := Lib.hid (info_a32 l hl)
  have IR := Lib.hid (info_a32 r hr)
  have c1 := fun W => rpair_any l r W hl hr
  have hlP : (nodeB l r).length = 65 := by simp [nodeB, hl, hr]
  obtain ⟨P, hP⟩ : ∃ P, P = nodeB l r := ⟨_, rfl⟩
  rw [← hP] at c1 hlP
  have HP := Lib.hid hP
  have HLP := Lib.hid hlP
  clear hl hr hlP hP
  go_enter Try.func41, Try.ntmps41
  go_wp2_with (refine wp_box (o := ⟨some 2, _, _, _, _, _⟩) rfl 26 (.tmp 0) rfl (c8 l) rfl ?_)
  intro w1 hr hg hz
  clear hz
  have hS1 := ((Own.start w)).new hr hg
  clear hr hg
  go_wp2_with (refine wp_box (o := ⟨some 3, _, _, _, _, _⟩) rfl 26 (.tmp 1) rfl (c8 r) rfl ?_)
  intro w2 hr hg hz
  clear hz
  have hS2 := (hS1).new hr hg
  clear hr hg
  go_wp2_with (refine wp_alloc (o := ⟨some 4, _, _, _, _, _⟩) rfl 26 rfl _ alloc_d32 ?_)
  intro w3 hr hg hz
  clear hz
  have hS3 := hS2.new hr hg
  clear hr hg
  clear hS1 hS2
  go_wp2_with (first | (refine wp_load rfl 26 (.tmp 2) rfl Try.underlying26 rfl ⟨w.heap.size, 0, none⟩ rfl (c8 l) IL.out (row_all (hS3.row 2 rfl)) ?_) | (refine wp_load rfl 26 (.tmp 3) rfl Try.underlying26 rfl ⟨w1.heap.size, 0, none⟩ rfl (c8 r) IR.out (row_all (hS3.row 1 rfl)) ?_))
  refine (c1 _).mono ?_
  rintro e w4 ⟨v, rfl, ho, hg⟩
  have hS4 := hS3.madeB ho hg
  clear hg hS3
  clear ho c1
  obtain ⟨A, cp, rfl, hbp, hc1, hc2⟩ := own_open (hS4.bytes 0 rfl)
  have HBP := Lib.hid hbp
  clear hbp
  go_wp2_with fail
  refine (rsum_any cp A P _ HBP.out (by rw [HLP.out]; omega)).mono ?_
  rintro e w7 ⟨rfl, hg⟩
  have hS7 := hS4.call hg
  clear hg hS4
  obtain ⟨D, hD⟩ : ∃ D, D = sha P := ⟨_, rfl⟩
  rw [← hD]
  have hl := sha_length P
  rw [← hD] at hl
  have HFIT := Lib.hid (show 0 + (c8 D).length ≤ zd.length by rw [c8_length, hl]; decide)
  have HEQ := Lib.hid (show (c8 D).length = zd.length by rw [c8_length, hl]; decide)
  have HI := Lib.hid (info_a32 D hl)
  have HRES := Lib.hid (show D = nodeL l r by rw [hD, HP.out]; rfl)
  clear hD hl
  go_wp2_with (refine wp_storeAgg rfl 26 (.tmp 4) (.tmp 8) rfl w2.heap.size 0 26 zd (c8 (D)) rfl rfl (hS7.row 1 rfl) (by simpa using HI.out) HFIT.out (one8 _) ?_)
  intro wz hdr hgz _
  rw [splice_all HEQ.out] at hdr
  have hSz := hS7.setRow 1 rfl hdr hgz
  clear hdr hgz hS7
  go_wp2
  refine bodyPost_ret (v := .agg (c8 (D)).toArray) (results_cell_row rfl _ _ w2.heap.size _ _ _ _ rfl (hSz.row 1 rfl) Try.underlying26 rfl (by simpa using HI.out)) rfl ⟨(by rw [HRES.out]), hSz.grown⟩
end Go.Proofs.Ytpohjldhbaalbaa
