/- The walk of the law DigestTexts. -/
import Derived.Test.YtgagpbbmlpbjpaaParse
import Derived.Test.YtgagpbbmlpbjpaaRText
namespace Go.Proofs.Ytgagpbbmlpbjpaa
open Go.RowKit

theorem digN_hexd : ∀ k : Fin 16, digN (hexd k.val).toNat = k.val := by decide +kernel
theorem hexd_digN : ∀ k : Fin 256, digN k.val < 16 → (hexd (digN k.val)).toNat = k.val := by decide +kernel
theorem unhexL_hex : ∀ (p : List UInt8), unhexL (hexOf p) = some p
  | [] => rfl
  | x :: p => by
    have hx := x.toNat_lt
    have h1 := digN_hexd ⟨x.toNat / 16, by omega⟩
    have h2 := digN_hexd ⟨x.toNat % 16, by omega⟩
    simp only at h1 h2
    rw [show hexOf (x :: p) = hexd (x.toNat / 16) :: hexd (x.toNat % 16) :: hexOf p from rfl, unhexL_two _ _ _ _ rfl, if_pos (by rw [h1, h2]; omega), unhexL_hex p, h1, h2]
    simp only [Option.map_some, Option.some.injEq, List.cons.injEq, and_true]
    rw [show 16 * (x.toNat / 16) + x.toNat % 16 = x.toNat by omega]
    exact UInt8.toNat_inj.1 (by rw [UInt8.toNat_ofNat']; omega)
theorem hex_unhexL : ∀ (l q : List UInt8), unhexL l = some q → hexOf q = l
  | [], q, h => by simp [unhexL] at h; rw [h]; rfl
  | [_], q, h => by simp [unhexL] at h
  | a :: b :: r, q, h => by
    rw [unhexL_two _ a b r rfl] at h
    split at h
    · rename_i hc
      simp only [Option.map_eq_some_iff] at h
      obtain ⟨x, hx, rfl⟩ := h
      have ih := hex_unhexL r x hx
      have h1 := hexd_digN ⟨a.toNat, a.toNat_lt⟩ hc.1
      have h2 := hexd_digN ⟨b.toNat, b.toNat_lt⟩ hc.2
      simp only at h1 h2
      have hv : (UInt8.ofNat (16 * digN a.toNat + digN b.toNat)).toNat = 16 * digN a.toNat + digN b.toNat := by rw [UInt8.toNat_ofNat']; omega
      show hexd ((UInt8.ofNat (16 * digN a.toNat + digN b.toNat)).toNat / 16) :: hexd ((UInt8.ofNat (16 * digN a.toNat + digN b.toNat)).toNat % 16) :: hexOf x = _
      rw [hv, show (16 * digN a.toNat + digN b.toNat) / 16 = digN a.toNat by omega, show (16 * digN a.toNat + digN b.toNat) % 16 = digN b.toNat by omega, ih, UInt8.toNat_inj.1 h1, UInt8.toNat_inj.1 h2]
    · cases h
theorem textOf_length (p : List UInt8) : (textOf p).length = 7 + 2 * p.length := by simp [textOf, hexOf_length, textPre]; omega
theorem parseL_textOf (d : List UInt8) (hd : d.length = 32) : parseL (textOf d) = some d := by
  unfold parseL
  rw [if_pos ⟨by rw [textOf_length, hd], rfl⟩]
  exact unhexL_hex d
theorem textOf_of {l q : List UInt8} (h : parseL l = some q) : textOf q = l := by
  unfold parseL at h
  split at h
  · rename_i hc
    unfold textOf
    rw [hex_unhexL _ _ h, ← hc.2]
    exact List.take_append_drop 7 l
  · cases h
theorem parse_some (l q : List UInt8) (w : World) (hl : l.length ≤ 140737488351232) (hq : parseL l = some q) :
    Calls Try.prog 31 #[.string ⟨l.toArray⟩] w fun e w' => e = .returned (.tuple #[.agg (c8 q).toArray, .int .i64 0]) ∧ w.grownBy w' none :=
  (parse_any l w hl).mono fun e w' h => by
    rcases h with ⟨x, hx, he, hg⟩ | ⟨hn, _⟩
    · rw [hq] at hx; injection hx with hx; subst hx; exact ⟨he, hg⟩
    · rw [hq] at hn; cases hn
theorem parse_none (l : List UInt8) (w : World) (hl : l.length ≤ 140737488351232) (hq : parseL l = none) :
    Calls Try.prog 31 #[.string ⟨l.toArray⟩] w fun e w' => e = .returned (.tuple #[.agg (c8 z32).toArray, .int .i64 10]) ∧ w.grownBy w' none :=
  (parse_any l w hl).mono fun e w' h => by
    rcases h with ⟨x, hx, he, hg⟩ | ⟨_, he, hg⟩
    · rw [hq] at hx; cases hx
    · exact ⟨he, hg⟩
theorem rparse_some (l q : List UInt8) (w : World) (hl : l.length ≤ 140737488351232) (hq : parseL l = some q) :
    Calls Try.prog 32 #[.string ⟨l.toArray⟩] w fun e w' => e = .returned (.tuple #[.agg (c8 q).toArray, .bool true]) ∧ w.grownBy w' none :=
  (rparse_any l w hl).mono fun e w' h => by
    rcases h with ⟨x, hx, he, hg⟩ | ⟨hn, _⟩
    · rw [hq] at hx; injection hx with hx; subst hx; exact ⟨he, hg⟩
    · rw [hq] at hn; cases hn
theorem rparse_none (l : List UInt8) (w : World) (hl : l.length ≤ 140737488351232) (hq : parseL l = none) :
    Calls Try.prog 32 #[.string ⟨l.toArray⟩] w fun e w' => e = .returned (.tuple #[.agg (c8 z32).toArray, .bool false]) ∧ w.grownBy w' none :=
  (rparse_any l w hl).mono fun e w' h => by
    rcases h with ⟨x, hx, he, hg⟩ | ⟨_, he, hg⟩
    · rw [hq] at hx; cases hx
    · exact ⟨he, hg⟩

set_option maxRecDepth 100000 in
set_option maxHeartbeats 4000000 in
theorem texts_some (w : World) (l q d : List UInt8) (hl : l.length ≤ 140737488351232) (hd : d.length = 32) (hq : parseL l = some q) :
    Calls Try.prog 8 #[.string ⟨l.toArray⟩, .agg (c8 d).toArray] w fun e w' => e = .returned (.bool true) ∧ w.grownBy w' none := by
  have HP := Lib.hid hq
  have HD := Lib.hid hd
  have HQ := Lib.hid (parseL_len hq)
  have HT := Lib.hid (textOf_of hq)
  clear hq hd
  go_enter Try.func8, Try.ntmps8
  go_wp2_with (refine wp_box (o := ⟨some 3, _, _, _, _, _⟩) rfl 24 (.tmp 1) rfl (c8 d) rfl ?_)
  intro w1 hr hg hz
  clear hz
  have hS1 := (Own.start w).new hr hg
  clear hr hg
  go_wp2_with fail
  refine (parse_some l q _ hl HP.out).mono ?_
  rintro e w2 ⟨rfl, hg⟩
  have hS2 := hS1.call hg
  clear hg hS1
  go_wp2_with (refine wp_alloc (o := ⟨some 5, _, _, _, _, _⟩) rfl 25 rfl _ alloc_d ?_)
  intro w3 hr hg hz
  clear hz
  have hS3 := hS2.new hr hg
  clear hr hg hS2
  go_wp2_with (refine wp_storeAgg rfl 25 (.tmp 5) (.tmp 14) rfl w2.heap.size 0 25 zd (c8 q) rfl rfl (hS3.row 0 rfl) (info_dig q HQ.out) (by rw [c8_length, HQ.out]; decide) (one8 _) ?_)
  intro w4 hr hg hz
  clear hz
  rw [splice_all (by rw [c8_length, HQ.out]; decide)] at hr
  have hS4 := hS3.setRow 0 rfl hr hg
  clear hr hg hS3
  go_wp2_with fail
  refine (rparse_some l q _ hl HP.out).mono ?_
  rintro e w5 ⟨rfl, hg⟩
  have hS5 := hS4.call hg
  clear hg hS4
  go_wp2_with (refine wp_alloc (o := ⟨some 7, _, _, _, _, _⟩) rfl 24 rfl _ alloc_d32 ?_)
  intro w6 hr hg hz
  clear hz
  have hS6 := hS5.new hr hg
  clear hr hg hS5
  go_wp2_with (refine wp_storeAgg rfl 24 (.tmp 7) (.tmp 19) rfl w5.heap.size 0 24 zd (c8 q) rfl rfl (hS6.row 0 rfl) (info_d32 q HQ.out) (by rw [c8_length, HQ.out]; decide) (one8 _) ?_)
  intro w7 hr hg hz
  clear hz
  rw [splice_all (by rw [c8_length, HQ.out]; decide)] at hr
  have hS7 := hS6.setRow 0 rfl hr hg
  clear hr hg hS6
  go_wp2_with (refine wp_load rfl 24 (.tmp 3) rfl Try.underlying24 rfl ⟨w.heap.size, 0, none⟩ rfl (c8 d) (info_d32 d HD.out) (row_all (hS7.row 2 rfl)) ?_)
  go_wp2_with fail
  refine (text_any d _ HD.out).mono ?_
  rintro e w8 ⟨rfl, hg⟩
  have hS8 := hS7.call hg
  clear hg hS7
  go_wp2_with fail
  refine (parse_some (textOf d) d _ (by rw [textOf_length, HD.out]; omega) (parseL_textOf d HD.out)).mono ?_
  rintro e w9 ⟨rfl, hg⟩
  have hS9 := hS8.call hg
  clear hg hS8
  go_wp2_with (refine wp_alloc (o := ⟨some 9, _, _, _, _, _⟩) rfl 25 rfl _ alloc_d ?_)
  intro w10 hr hg hz
  clear hz
  have hS10 := hS9.new hr hg
  clear hr hg hS9
  go_wp2_with (refine wp_storeAgg rfl 25 (.tmp 9) (.tmp 25) rfl w9.heap.size 0 25 zd (c8 d) rfl rfl (hS10.row 0 rfl) (info_dig d HD.out) (by rw [c8_length, HD.out]; decide) (one8 _) ?_)
  intro w11 hr hg hz
  clear hz
  rw [splice_all (by rw [c8_length, HD.out]; decide)] at hr
  have hSB := hS10.setRow 0 rfl hr hg
  clear hr hg hS10
  have heq := fun W => eq_dig W q q HQ.out HQ.out
  have heq2 := fun W => eq_dig W d d HD.out HD.out
  simp only [decide_true] at heq heq2
  go_wp2_with fail
  have hSC := hSB.drew
  clear hSB
  refine wp_region_mixC (fun W => Own w W _) (fun _ => true) [(0, false), (1, true), (2, true), (3, true), (4, true), (5, true), (6, true), (7, true), (8, true), (9, true), (10, true), (11, true), (12, true), (13, true), (14, true), (15, true), (16, true), (17, true), (18, true), (19, true), (20, true), (21, true), (22, true), (23, true), (24, true), (25, true), (26, true), (27, true), (28, true), (29, true), (30, true), (32, true), (31, false), (33, false), (34, true), (35, true), (36, true), (37, true), (38, true), (39, true), (40, true), (42, true), (41, false), (43, true), (44, true), (45, true), (46, false)] (by kernel_rfl) (by kernel_rfl) hSC ?_
  refine wpMix_loudW _ rfl rfl ?_
  go_wp2_with fail
  refine (awake_any _).mono ?_
  rintro e w12 ⟨rfl, hg⟩
  have hSD := hSC.call hg
  clear hg hSC
  go_wp2_with fail
  refine wpMix_next' (fun _ => hSD) ?_
  iterate 1 (refine wpMix_step rfl (fun K hK => ?_); go_simp; (try go_bits); with_reducible refine hK _ ?_; clear hK K)
  refine wpMix_pureW (.agg (c8 q).toArray) rfl rfl (fun W hW => run_load_op 25 (.tmp 5) rfl Try.underlying25 rfl ⟨w2.heap.size, 0, none⟩ rfl _ (info_dig q HQ.out) (row_all (hW.row 2 rfl))) ?_
  refine wpMix_pureW (.agg (c8 q).toArray) rfl rfl (fun W hW => run_load_op 24 (.tmp 7) rfl Try.underlying24 rfl ⟨w5.heap.size, 0, none⟩ rfl _ (info_d32 q HQ.out) (row_all (hW.row 1 rfl))) ?_
  iterate 21 (refine wpMix_step rfl (fun K hK => ?_); go_simp; (try go_bits); with_reducible refine hK _ ?_; clear hK K)
  refine wpMix_pureW (.agg (c8 d).toArray) rfl rfl (fun W hW => run_load_op 25 (.tmp 9) rfl Try.underlying25 rfl ⟨w9.heap.size, 0, none⟩ rfl _ (info_dig d HD.out) (row_all (hW.row 0 rfl))) ?_
  refine wpMix_pureW (.agg (c8 d).toArray) rfl rfl (fun W hW => run_load_op 24 (.tmp 3) rfl Try.underlying24 rfl ⟨w.heap.size, 0, none⟩ rfl _ (info_d32 d HD.out) (row_all (hW.row 3 rfl))) ?_
  iterate 3 (refine wpMix_step rfl (fun K hK => ?_); go_simp; (try go_bits); with_reducible refine hK _ ?_; clear hK K)
  refine wpMix_pureW (.agg (c8 d).toArray) rfl rfl (fun W hW => run_load_op 24 (.tmp 3) rfl Try.underlying24 rfl ⟨w.heap.size, 0, none⟩ rfl _ (info_d32 d HD.out) (row_all (hW.row 3 rfl))) ?_
  refine wpMix_pureW (.agg (c8 d).toArray) rfl rfl (fun W hW => run_load_op 24 (.tmp 3) rfl Try.underlying24 rfl ⟨w.heap.size, 0, none⟩ rfl _ (info_d32 d HD.out) (row_all (hW.row 3 rfl))) ?_
  refine wpMix_loudW _ rfl rfl ?_
  go_wp2_with fail
  refine (text_any d _ HD.out).mono ?_
  rintro e w13 ⟨rfl, hg⟩
  have hSE := hSD.call hg
  clear hg hSD
  go_wp2_with fail
  refine wpMix_next' (fun _ => hSE) ?_
  refine wpMix_loudW _ rfl rfl ?_
  go_wp2_with fail
  refine (rtext_any d _ HD.out).mono ?_
  rintro e w14 ⟨rfl, hg⟩
  have hSF := hSE.call hg
  clear hg hSE
  go_wp2_with fail
  refine wpMix_next' (fun _ => hSF) ?_
  iterate 6 (refine wpMix_step rfl (fun K hK => ?_); go_simp; (try go_bits); with_reducible refine hK _ ?_; clear hK K)
  refine wpMix_pureW (.agg (c8 q).toArray) rfl rfl (fun W hW => run_load_op 25 (.tmp 5) rfl Try.underlying25 rfl ⟨w2.heap.size, 0, none⟩ rfl _ (info_dig q HQ.out) (row_all (hW.row 2 rfl))) ?_
  iterate 1 (refine wpMix_step rfl (fun K hK => ?_); go_simp; (try go_bits); with_reducible refine hK _ ?_; clear hK K)
  refine wpMix_loudW _ rfl rfl ?_
  go_wp2_with fail
  refine (text_any q _ HQ.out).mono ?_
  rintro e w15 ⟨rfl, hg⟩
  have hSG := hSF.call hg
  clear hg hSF
  go_wp2_with fail
  refine wpMix_next' (fun _ => hSG) ?_
  rw [HT.out]
  iterate 3 (refine wpMix_step rfl (fun K hK => ?_); go_simp; (try go_bits); with_reducible refine hK _ ?_; clear hK K)
  refine wpMix_loudW _ rfl rfl ?_
  go_wp2_with fail
  refine wpMix_next' (fun _ => hSG) ?_
  unfold wpMix
  go_wp2
  go_ret
  exact ⟨rfl, hSG.grown⟩

set_option maxRecDepth 100000 in
set_option maxHeartbeats 4000000 in
theorem texts_none (w : World) (l d : List UInt8) (hl : l.length ≤ 140737488351232) (hd : d.length = 32) (hq : parseL l = none) :
    Calls Try.prog 8 #[.string ⟨l.toArray⟩, .agg (c8 d).toArray] w fun e w' => e = .returned (.bool true) ∧ w.grownBy w' none := by
  have HP := Lib.hid hq
  have HD := Lib.hid hd
  clear hq hd
  go_enter Try.func8, Try.ntmps8
  go_wp2_with (refine wp_box (o := ⟨some 3, _, _, _, _, _⟩) rfl 24 (.tmp 1) rfl (c8 d) rfl ?_)
  intro w1 hr hg hz
  clear hz
  have hS1 := (Own.start w).new hr hg
  clear hr hg
  go_wp2_with fail
  refine (parse_none l _ hl HP.out).mono ?_
  rintro e w2 ⟨rfl, hg⟩
  have hS2 := hS1.call hg
  clear hg hS1
  go_wp2_with (refine wp_alloc (o := ⟨some 5, _, _, _, _, _⟩) rfl 25 rfl _ alloc_d ?_)
  intro w3 hr hg hz
  clear hz
  have hS3 := hS2.new hr hg
  clear hr hg hS2
  go_wp2_with (refine wp_storeAgg rfl 25 (.tmp 5) (.tmp 14) rfl w2.heap.size 0 25 zd (c8 z32) rfl rfl (hS3.row 0 rfl) (info_dig z32 z32_length) (by rw [c8_length, z32_length]; decide) (one8 _) ?_)
  intro w4 hr hg hz
  clear hz
  rw [splice_all (by rw [c8_length, z32_length]; decide)] at hr
  have hS4 := hS3.setRow 0 rfl hr hg
  clear hr hg hS3
  go_wp2_with fail
  refine (rparse_none l _ hl HP.out).mono ?_
  rintro e w5 ⟨rfl, hg⟩
  have hS5 := hS4.call hg
  clear hg hS4
  go_wp2_with (refine wp_alloc (o := ⟨some 7, _, _, _, _, _⟩) rfl 24 rfl _ alloc_d32 ?_)
  intro w6 hr hg hz
  clear hz
  have hS6 := hS5.new hr hg
  clear hr hg hS5
  go_wp2_with (refine wp_storeAgg rfl 24 (.tmp 7) (.tmp 19) rfl w5.heap.size 0 24 zd (c8 z32) rfl rfl (hS6.row 0 rfl) (info_d32 z32 z32_length) (by rw [c8_length, z32_length]; decide) (one8 _) ?_)
  intro w7 hr hg hz
  clear hz
  rw [splice_all (by rw [c8_length, z32_length]; decide)] at hr
  have hS7 := hS6.setRow 0 rfl hr hg
  clear hr hg hS6
  go_wp2_with (refine wp_load rfl 24 (.tmp 3) rfl Try.underlying24 rfl ⟨w.heap.size, 0, none⟩ rfl (c8 d) (info_d32 d HD.out) (row_all (hS7.row 2 rfl)) ?_)
  go_wp2_with fail
  refine (text_any d _ HD.out).mono ?_
  rintro e w8 ⟨rfl, hg⟩
  have hS8 := hS7.call hg
  clear hg hS7
  go_wp2_with fail
  refine (parse_some (textOf d) d _ (by rw [textOf_length, HD.out]; omega) (parseL_textOf d HD.out)).mono ?_
  rintro e w9 ⟨rfl, hg⟩
  have hS9 := hS8.call hg
  clear hg hS8
  go_wp2_with (refine wp_alloc (o := ⟨some 9, _, _, _, _, _⟩) rfl 25 rfl _ alloc_d ?_)
  intro w10 hr hg hz
  clear hz
  have hS10 := hS9.new hr hg
  clear hr hg hS9
  go_wp2_with (refine wp_storeAgg rfl 25 (.tmp 9) (.tmp 25) rfl w9.heap.size 0 25 zd (c8 d) rfl rfl (hS10.row 0 rfl) (info_dig d HD.out) (by rw [c8_length, HD.out]; decide) (one8 _) ?_)
  intro w11 hr hg hz
  clear hz
  rw [splice_all (by rw [c8_length, HD.out]; decide)] at hr
  have hSB := hS10.setRow 0 rfl hr hg
  clear hr hg hS10
  have heq := fun W => eq_dig W z32 z32 z32_length z32_length
  have heq2 := fun W => eq_dig W d d HD.out HD.out
  simp only [decide_true] at heq heq2
  go_wp2_with fail
  have hSC := hSB.drew
  clear hSB
  refine wp_region_mixC (fun W => Own w W _) (fun _ => true) [(0, false), (1, true), (2, true), (3, true), (4, true), (5, true), (6, true), (7, true), (8, true), (9, true), (10, true), (11, true), (12, true), (13, true), (14, true), (15, true), (16, true), (17, true), (18, true), (19, true), (20, true), (21, true), (22, true), (23, true), (24, true), (25, true), (26, true), (27, true), (28, true), (29, true), (30, true), (32, true), (31, false), (33, false), (34, true), (35, true), (36, true), (37, true), (38, true), (39, true), (40, true), (41, true), (42, true), (43, true), (44, true), (45, true), (46, false)] (by kernel_rfl) (by kernel_rfl) hSC ?_
  refine wpMix_loudW _ rfl rfl ?_
  go_wp2_with fail
  refine (awake_any _).mono ?_
  rintro e w12 ⟨rfl, hg⟩
  have hSD := hSC.call hg
  clear hg hSC
  go_wp2_with fail
  refine wpMix_next' (fun _ => hSD) ?_
  iterate 1 (refine wpMix_step rfl (fun K hK => ?_); go_simp; (try go_bits); with_reducible refine hK _ ?_; clear hK K)
  refine wpMix_pureW (.agg (c8 z32).toArray) rfl rfl (fun W hW => run_load_op 25 (.tmp 5) rfl Try.underlying25 rfl ⟨w2.heap.size, 0, none⟩ rfl _ (info_dig z32 z32_length) (row_all (hW.row 2 rfl))) ?_
  refine wpMix_pureW (.agg (c8 z32).toArray) rfl rfl (fun W hW => run_load_op 24 (.tmp 7) rfl Try.underlying24 rfl ⟨w5.heap.size, 0, none⟩ rfl _ (info_d32 z32 z32_length) (row_all (hW.row 1 rfl))) ?_
  iterate 21 (refine wpMix_step rfl (fun K hK => ?_); go_simp; (try go_bits); with_reducible refine hK _ ?_; clear hK K)
  refine wpMix_pureW (.agg (c8 d).toArray) rfl rfl (fun W hW => run_load_op 25 (.tmp 9) rfl Try.underlying25 rfl ⟨w9.heap.size, 0, none⟩ rfl _ (info_dig d HD.out) (row_all (hW.row 0 rfl))) ?_
  refine wpMix_pureW (.agg (c8 d).toArray) rfl rfl (fun W hW => run_load_op 24 (.tmp 3) rfl Try.underlying24 rfl ⟨w.heap.size, 0, none⟩ rfl _ (info_d32 d HD.out) (row_all (hW.row 3 rfl))) ?_
  iterate 3 (refine wpMix_step rfl (fun K hK => ?_); go_simp; (try go_bits); with_reducible refine hK _ ?_; clear hK K)
  refine wpMix_pureW (.agg (c8 d).toArray) rfl rfl (fun W hW => run_load_op 24 (.tmp 3) rfl Try.underlying24 rfl ⟨w.heap.size, 0, none⟩ rfl _ (info_d32 d HD.out) (row_all (hW.row 3 rfl))) ?_
  refine wpMix_pureW (.agg (c8 d).toArray) rfl rfl (fun W hW => run_load_op 24 (.tmp 3) rfl Try.underlying24 rfl ⟨w.heap.size, 0, none⟩ rfl _ (info_d32 d HD.out) (row_all (hW.row 3 rfl))) ?_
  refine wpMix_loudW _ rfl rfl ?_
  go_wp2_with fail
  refine (text_any d _ HD.out).mono ?_
  rintro e w13 ⟨rfl, hg⟩
  have hSE := hSD.call hg
  clear hg hSD
  go_wp2_with fail
  refine wpMix_next' (fun _ => hSE) ?_
  refine wpMix_loudW _ rfl rfl ?_
  go_wp2_with fail
  refine (rtext_any d _ HD.out).mono ?_
  rintro e w14 ⟨rfl, hg⟩
  have hSF := hSE.call hg
  clear hg hSE
  go_wp2_with fail
  refine wpMix_next' (fun _ => hSF) ?_
  iterate 12 (refine wpMix_step rfl (fun K hK => ?_); go_simp; (try go_bits); with_reducible refine hK _ ?_; clear hK K)
  refine wpMix_loudW _ rfl rfl ?_
  go_wp2_with fail
  refine wpMix_next' (fun _ => hSF) ?_
  unfold wpMix
  go_wp2
  go_ret
  exact ⟨rfl, hSF.grown⟩

theorem walk_DigestTexts (w : World) (t : ByteArray) (ht : t.data.toList.length ≤ 140737488351232) (d : List UInt8) (hd : d.length = 32) :
    Calls Try.prog 8 #[.string t, .agg (c8 d).toArray] w fun e w' => e = .returned (.bool true) ∧ w.grownBy w' none := by
  obtain ⟨l, hl⟩ : ∃ l, l = t.data.toList := ⟨_, rfl⟩
  rw [← hl] at ht
  rw [ba_eq hl.symm]
  cases hq : parseL l with
  | some q => exact texts_some w l q d ht hd hq
  | none => exact texts_none w l d ht hd hq
end Go.Proofs.Ytgagpbbmlpbjpaa
