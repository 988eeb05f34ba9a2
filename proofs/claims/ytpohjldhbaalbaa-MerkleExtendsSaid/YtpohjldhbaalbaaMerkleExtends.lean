/- The walk of the law MerkleExtends. -/
import Derived.Test.YtpohjldhbaalbaaExtAll3
import Derived.Test.YtpohjldhbaalbaaMerkleChecks
import Derived.Test.YtpohjldhbaalbaaAwake3
import Derived.Test.YtpohjldhbaalbaaWf
namespace Go.Proofs.Ytpohjldhbaalbaa
set_option linter.unusedVariables false
set_option linter.unusedSimpArgs false
set_option linter.unusedSectionVars false
open Go.RowKit
set_option linter.unusedVariables false

theorem ownsR_rows {w : World} {g : Nat} {t : TypeId} {L : List (List UInt8)} (h : Row w g t (c8 L.flatten)) (hL : L32 L) (hlen : L.length ≤ 4096) (n : Nat) (hn : L.length = n) (base : Nat) (hb : base ≤ g) : OwnsR w base t (.slice (some ⟨g, 0, none⟩) n n) L := by
  subst hn
  have hfl := flatten_len hL
  refine ⟨hL, by simp [hfl], .inr ⟨g, L.length, (c8 L.flatten).toArray, rfl, hb, h, Nat.le_refl _, by simp [maxLen]; omega, by simp [hfl], ?_⟩⟩
  exact List.take_of_length_le (by simp [hfl])

set_option maxRecDepth 100000 in
set_option maxHeartbeats 40000000 in
theorem extends_core (w : World) (old r1 X : List UInt8) (m n : Int) (A : Option Addr) (l c q : Nat) (Wy : Way) (K : List UInt8 → Bool) (HO : Hid (old.length = 32)) (HR : Hid (r1.length = 32)) (HX : Hid (X.length = 32)) (HQL : Hid (Wy.length = q)) (HQ70 : (q : Int) ≤ 70)
    (m0 : -9223372036854775808 ≤ m) (m1 : m ≤ 9223372036854775807) (n0 : -9223372036854775808 ≤ n) (n1 : n ≤ 9223372036854775807)
    (kcut : ∀ W, w.grownBy W none → Calls Try.prog 13 #[.slice A l c, .int .i64 70] W fun e w' => ∃ v, e = .returned v ∧ OwnsR w' W.heap.size 26 v Wy ∧ W.grownBy w' none)
    (kg : 0 < m → m ≤ n → ∀ A c W, Rows32 W A c Wy → c ≤ 9223372036854775807 → Calls Try.prog 28 #[.agg (c8 old).toArray, .int .i64 m, .int .i64 n, .bool true, .slice A q c] W fun e w' => ∃ a B k d ok, e = .returned (.agg (bothC a X (.slice B k d) ok).toArray) ∧ Hid (a.length = 32) ∧ W.grownBy w' none)
    (k2 : ∀ A c W, Rows32 W A c Wy → c ≤ 9223372036854775807 → Calls Try.prog 18 #[.slice A q c] W fun e w' => ∃ v, e = .returned v ∧ OwnsR w' W.heap.size 27 v Wy ∧ W.grownBy w' none)
    (kc : ∀ r A c W, r.length = 32 → Rows32 W A c Wy → c ≤ 9223372036854775807 → Calls Try.prog 29 #[.agg (c8 old).toArray, .int .i64 m, .agg (c8 r).toArray, .int .i64 n, .slice A q c] W fun e w' => e = .returned (.bool (K r)) ∧ W.grownBy w' none)
    (kr : ∀ r A c W, r.length = 32 → Rows32 W A c Wy → c ≤ 9223372036854775807 → Calls Try.prog 30 #[.agg (c8 old).toArray, .int .i64 m, .agg (c8 r).toArray, .int .i64 n, .slice A q c] W fun e w' => e = .returned (.bool (K r)) ∧ W.grownBy w' none) :
    Calls Try.prog 7 #[.agg (c8 (old ++ r1)).toArray, .int .i64 m, .int .i64 n, .slice A l c] w fun e w' => e = .returned (.bool true) ∧ w.grownBy w' none := by
  have INO := Lib.hid (info_a32 old HO.out)
  have IR := Lib.hid (info_a32 r1 HR.out)
  have IX := Lib.hid (info_a32 X HX.out)
  have FO := Lib.hid (show 0 + (c8 old).length ≤ zd.length by rw [c8_length, HO.out]; decide)
  have EO := Lib.hid (show (c8 old).length = zd.length by rw [c8_length, HO.out]; decide)
  go_enter Try.func7, Try.ntmps7
  go_wp2_with (refine wp_box (o := ⟨some 4, _, _, _, _, _⟩) rfl 48 (.tmp 0) rfl (c8 (old ++ r1)) rfl ?_)
  intro w1 hr hg hz
  clear hz
  have hS1 := ((Own.start w)).new hr hg
  clear hr hg
  go_wp2_with fail
  refine (kcut _ hS1.grown).mono ?_
  rintro e w2 ⟨v, rfl, ho, hg⟩
  obtain ⟨A1, c1, rfl, hR, hc1⟩ := ownsR_at ho HQL.out
  have hS2 := hS1.call hg
  clear hg hS1 kcut ho
  have HW := Lib.hid hR
  have HC1 := Lib.hid hc1
  clear hR hc1
  have HG2 := Lib.hid hS2.grown
  have hrow := hS2.row 0 rfl
  have HP0 := Lib.hid (show ∀ j u, (c8 old)[j]? = some u → w2.cell? ((⟨w.heap.size, 0, none⟩ : Addr).add j) = some u by
    intro j u hu
    rw [addr_add, Nat.zero_add, hrow.cell, show c8 (old ++ r1) = c8 old ++ c8 r1 by simp [c8], List.getElem?_append_left (List.getElem?_eq_some_iff.1 hu).1]; exact hu)
  have HP1 := Lib.hid (show ∀ j u, (c8 r1)[j]? = some u → w2.cell? ((⟨w.heap.size, 32, none⟩ : Addr).add j) = some u by
    intro j u hu
    rw [addr_add, hrow.cell, show c8 (old ++ r1) = c8 old ++ c8 r1 by simp [c8], List.getElem?_append_right (by rw [c8_length, HO.out]; omega), c8_length, HO.out, show 32 + j - 32 = j by omega]; exact hu)
  clear hrow hS2
  have hT := Own.start w2
  go_wp2_with (first | (refine wp_load rfl 26 (.tmp 16) rfl Try.underlying26 rfl ⟨w.heap.size, 0, none⟩ rfl (c8 old) INO.out (fun j u hu => hT.cell (HP0.out j u hu)) ?_) | (refine wp_alloc (o := ⟨some 9, _, _, _, _, _⟩) rfl 26 rfl _ alloc_d32 ?_))
  intro w3 hr hg hz
  clear hz
  have hT3 := hT.new hr hg
  clear hr hg hT
  go_wp2_with (refine wp_storeAgg rfl 26 (.tmp 9) (.tmp 17) rfl w2.heap.size 0 26 zd (c8 old) rfl rfl (hT3.row 0 rfl) INO.out FO.out (one8 _) ?_)
  intro w4 hr hg hz
  clear hz
  rw [splice_all EO.out] at hr
  have hT4 := hT3.setRow 0 rfl hr hg
  clear hr hg hT3
  go_wp2_with (first | (refine wp_load rfl 26 (.tmp 18) rfl Try.underlying26 rfl ⟨w.heap.size, 32, none⟩ rfl (c8 r1) IR.out (fun j u hu => hT4.cell (HP1.out j u hu)) ?_) | (refine wp_load rfl 26 (.tmp 9) rfl Try.underlying26 rfl ⟨w2.heap.size, 0, none⟩ rfl (c8 old) INO.out (row_all (hT4.row 0 rfl)) ?_) | (refine wp_built2 rfl 22 (.tmp 19) (.tmp 20) rfl 26 Try.underlying22 32 info_za (by omega) (by omega) (c8 r1) (c8 old) (by rw [c8_length]; exact HR.out) (by rw [c8_length]; exact HO.out) rfl rfl ?_))
  intro w8 hr hg
  have hLN : L32 [r1, old] := by
    intro y hy
    simp at hy
    rcases hy with rfl | rfl
    · exact HR.out
    · exact HO.out
  have ho := ownsR_rows (L := [r1, old]) (by rw [show c8 ([r1, old] : List (List UInt8)).flatten = c8 r1 ++ c8 old by simp [c8]]; exact hr) hLN (by simp) 2 rfl w2.heap.size hT4.grown.size
  have hT8 := hT4.newE hg (rowsE_good w2.heap.size 26 _ [r1, old]) ho (fun k hk => by cases hk; exact Nat.le_refl _)
  clear hT4 hr hg ho hLN
  by_cases hm : 0 < m
  · by_cases hmn : m ≤ n
    · have d1 : decide (0 < m) = true := by simp; omega
      have d2 : decide (m ≤ n) = true := by simp; omega
      have kgg := kg hm hmn
      clear kg
      go_wp2_with (first | (refine wp_load rfl 26 (.tmp 9) rfl Try.underlying26 rfl ⟨w2.heap.size, 0, none⟩ rfl (c8 old) INO.out (row_all (hT8.row 1 rfl)) ?_))
      refine (kgg _ _ _ (HW.out.keep hT8.grown) HC1.out).mono ?_
      rintro e w9 ⟨a, BB, kk, dd, okk, rfl, HA, hg⟩
      have hT9 := hT8.call hg
      clear hg hT8 kgg
      have lx : (bothC a X (.slice BB kk dd) okk).length = 66 := bothC_length _ _ _ _ HA.out HX.out
      have BIx := Lib.hid (info_both _ lx)
      have BFx := Lib.hid (show 0 + (bothC a X (.slice BB kk dd) okk).length ≤ bothZ.length by rw [lx]; decide)
      have BEx := Lib.hid (show (bothC a X (.slice BB kk dd) okk).length = bothZ.length by rw [lx]; decide)
      clear lx
      go_wp2_with (refine wp_alloc (o := ⟨some 11, _, _, _, _, _⟩) rfl 50 rfl _ alloc_both ?_)
      intro w10 hr hg hz
      clear hz
      have hTA := hT9.new hr hg
      clear hr hg
      clear hT9
      go_wp2_with (refine wp_storeAgg rfl 50 (.tmp 11) (.tmp 33) rfl w9.heap.size 0 50 bothZ (bothC a X (.slice BB kk dd) okk) rfl rfl (hTA.row 0 rfl) BIx.out BFx.out (one_both a X BB kk dd okk) ?_)
      intro w11 hr hg hz
      clear hz
      rw [splice_all BEx.out] at hr
      have hTB := hTA.setRow 0 rfl hr hg
      clear hr hg hTA
      go_wp2_with (first | (refine wp_load rfl 26 (.tmp 35) rfl Try.underlying26 rfl ⟨w9.heap.size, 32, none⟩ rfl (c8 X) IX.out (both_new (hTB.row 0 rfl) HA.out) ?_) | (refine wp_built1 rfl 22 (.tmp 36) rfl 26 Try.underlying22 32 info_za (by omega) (by omega) (c8 X) (by rw [c8_length]; exact HX.out) rfl ?_))
      intro w12 hr hg
      have hTC := hTB.new hr hg
      clear hr hg hTB
      have HAD := Lib.hid (show L32 [X] from fun y hy => by rw [List.mem_singleton.1 hy]; exact HX.out)
      have hbase := hTC.size
      go_wp2_with (refine wp_appR rfl (.tmp 34) (.tmp 37) 22 rfl 26 Try.underlying22 info_ra [r1, old] [r1, old, X] rfl (hTC.rows 2 rfl) _ 1 1 [X] rfl HAD.out (by simpa using src_row (hTC.row 0 rfl)) rfl rfl (by simp) hbase ?_)
      intro v' wv ho hg hv
      clear hbase
      have hTD := hTC.appendR 2 rfl ho hg (by first | exact hv | simpa using hv)
      clear hTC hg hv
      obtain ⟨A8, c8', rfl, hr8, hc8⟩ := ownsR_at ho (m := 3) rfl
      have HNL := Lib.hid hr8
      have HX8 := Lib.hid (row_all (hTD.row 3 rfl))
      have HD8 := Lib.hid (HW.out.keep hTD.grown)
      have HGV := Lib.hid (grownBy_trans HG2.out hTD.grown)
      clear HW HG2 HP0 HP1 hTD ho hr8 hc8
      have hU := Own.start wv
      go_wp2
      go_loopw [41] (fun iv wr => ∃ k : Nat, k ≤ 3 ∧ iv = .int .i64 (k : Int) ∧ Own wv wr []) (fun iv _ => 3 - (intOf iv).toNat)
      case atStart => exact ⟨0, by omega, rfl, hU⟩
      case round =>
        clear hU
        obtain ⟨k, hk, rfl, hS⟩ := hrel
        by_cases hlt : k < 3
        · have p1 : (k : Int) < 3 := by omega
          obtain ⟨b', off', rfl, hat'⟩ := (HNL.out.keep hS.grown).at_ k hlt
          have hyl := HNL.out.all.at_ k hlt
          obtain ⟨y, hy⟩ : ∃ y, y = ([r1, old, X] : List (List UInt8)).getD k [] := ⟨_, rfl⟩
          rw [← hy] at hat' hyl
          have HYL := Lib.hid hyl
          have IY := Lib.hid (info_a32 y hyl)
          have FY := Lib.hid (show 0 + (c8 y).length ≤ zd.length by rw [c8_length, hyl]; decide)
          have EY := Lib.hid (show (c8 y).length = zd.length by rw [c8_length, hyl]; decide)
          have HAY := Lib.hid hat'
          have HK := Lib.hid (show k < 3 from hlt)
          clear hat' hy hyl hlt hk
          go_wp2_with (first | (refine wp_load rfl 26 (.tmp 43) rfl Try.underlying26 rfl ⟨b', off' + k * 32, none⟩ rfl (c8 y) IY.out HAY.out ?_) | (refine wp_alloc (o := ⟨some 13, _, _, _, _, _⟩) rfl 26 rfl _ alloc_d32 ?_))
          intro w9 hr hg hz'
          clear hz'
          have hS9 := hS.new hr hg
          clear hr hg hS
          go_wp2_with (refine wp_storeAgg rfl 26 (.tmp 13) (.tmp 44) rfl wr.heap.size 0 26 zd (c8 y) rfl rfl (hS9.row 0 rfl) IY.out FY.out (one8 _) ?_)
          intro wA hr hg hz'
          clear hz'
          rw [splice_all EY.out] at hr
          have hSA := hS9.setRow 0 rfl hr hg
          clear hr hg hS9
          go_wp2_with fail
          have hSB := hSA.drew
          clear hSA
          refine wp_region_mixC (fun W => Own wv W _) (fun _ => true) [(0, true), (1, true), (2, true), (3, true), (4, true), (7, true), (8, true), (9, true), (10, true), (11, true), (5, false), (6, false), (12, false), (13, true)] (by kernel_rfl) (by kernel_rfl) hSB ?_
          refine wpMix_pureW (.agg (c8 old).toArray) rfl rfl (fun W hW => run_load_op 26 (.tmp 9) rfl Try.underlying26 rfl ⟨w2.heap.size, 0, none⟩ rfl _ INO.out (fun j u hu => hW.cell (HX8.out j u hu))) ?_
          iterate 1 (refine wpMix_step rfl (fun K hK => ?_); go_simp; (try go_bits); with_reducible refine hK _ ?_; clear hK K)
          refine wpMix_pureW (.agg (c8 y).toArray) rfl rfl (fun W hW => run_load_op 26 (.tmp 13) rfl Try.underlying26 rfl ⟨wr.heap.size, 0, none⟩ rfl _ IY.out (row_all (hW.row 0 rfl))) ?_
          iterate 2 (refine wpMix_step rfl (fun K hK => ?_); go_simp; (try go_bits); with_reducible refine hK _ ?_; clear hK K)
          refine wpMix_pureW (.agg (c8 old).toArray) rfl rfl (fun W hW => run_load_op 26 (.tmp 9) rfl Try.underlying26 rfl ⟨w2.heap.size, 0, none⟩ rfl _ INO.out (fun j u hu => hW.cell (HX8.out j u hu))) ?_
          iterate 1 (refine wpMix_step rfl (fun K hK => ?_); go_simp; (try go_bits); with_reducible refine hK _ ?_; clear hK K)
          refine wpMix_pureW (.agg (c8 y).toArray) rfl rfl (fun W hW => run_load_op 26 (.tmp 13) rfl Try.underlying26 rfl ⟨wr.heap.size, 0, none⟩ rfl _ IY.out (row_all (hW.row 0 rfl))) ?_
          iterate 2 (refine wpMix_step rfl (fun K hK => ?_); go_simp; (try go_bits); with_reducible refine hK _ ?_; clear hK K)
          refine wpMix_loudW _ rfl rfl ?_
          go_wp2_with fail
          refine (k2 _ _ _ (HD8.out.keep hSB.grown) HC1.out).mono ?_
          rintro e wB ⟨v, rfl, ho, hg⟩
          obtain ⟨AT, cT, rfl, hRT, hcT⟩ := ownsR_at ho HQL.out
          have hSC := hSB.call hg
          clear hg hSB ho
          go_wp2_with fail
          refine wpMix_next' (fun _ => hSC) ?_
          refine wpMix_loudW _ rfl rfl ?_
          go_wp2_with fail
          refine (kc _ _ _ _ HYL.out hRT hcT).mono ?_
          rintro e wC ⟨rfl, hg⟩
          have hSD := hSC.call hg
          clear hg hSC
          go_wp2_with fail
          refine wpMix_next' (fun _ => hSD) ?_
          refine wpMix_loudW _ rfl rfl ?_
          go_wp2_with fail
          refine (kr _ _ _ _ HYL.out (HD8.out.keep hSD.grown) HC1.out).mono ?_
          rintro e wD ⟨rfl, hg⟩
          have hSE := hSD.call hg
          clear hg hSD
          go_wp2_with fail
          refine wpMix_next' (fun _ => hSE) ?_
          iterate 1 (refine wpMix_step rfl (fun K hK => ?_); go_simp; (try go_bits); with_reducible refine hK _ ?_; clear hK K)
          unfold wpMix
          clear hRT hcT
          have hSF : Own wv _ [] := hSE.sub (List.nil_sublist _)
          clear hSE
          go_wp2
          go_roundw
          case rel => exact ⟨k + 1, by have := HK.out; omega, by go_num, hSF⟩
          case measure => have := HK.out; simp [intOf] <;> omega
        · obtain rfl : k = 3 := by omega
          clear hlt hk
          go_wp2_with fail
          go_wp2_with fail
          refine (awake_any _).mono ?_
          rintro e wZ ⟨rfl, hg⟩
          have hSZ := hS.call hg
          clear hg hS
          go_wp2_with fail
          go_ret
          exact ⟨rfl, grownBy_trans HGV.out hSZ.grown⟩
    · have d1 : decide (0 < m) = true := by simp; omega
      have d2 : decide (m ≤ n) = false := by simp; omega
      obtain ⟨wv, hwv⟩ : ∃ wv, wv = w8 := ⟨_, rfl⟩
      rw [← hwv] at hT8
      rw [← hwv]
      clear hwv w8
      have HNL := Lib.hid (show Rows32 wv (some ⟨w4.heap.size, 0, none⟩) 2 [r1, old] by obtain ⟨A8, c8', hv, hr8, hc8⟩ := ownsR_at (hT8.rows 0 rfl) (m := 2) rfl; injection hv with e1 e2 e3; subst e1; subst e3; exact hr8)
      have HX8 := Lib.hid (row_all (hT8.row 1 rfl))
      have HD8 := Lib.hid (HW.out.keep hT8.grown)
      have HGV := Lib.hid (grownBy_trans HG2.out hT8.grown)
      clear HW HG2 HP0 HP1 hT8 kg
      have hU := Own.start wv
      go_wp2
      go_loopw [41] (fun iv wr => ∃ k : Nat, k ≤ 2 ∧ iv = .int .i64 (k : Int) ∧ Own wv wr []) (fun iv _ => 2 - (intOf iv).toNat)
      case atStart => exact ⟨0, by omega, rfl, hU⟩
      case round =>
        clear hU
        obtain ⟨k, hk, rfl, hS⟩ := hrel
        by_cases hlt : k < 2
        · have p1 : (k : Int) < 2 := by omega
          obtain ⟨b', off', hA', hat'⟩ := (HNL.out.keep hS.grown).at_ k hlt
          injection hA' with hA'
          injection hA' with hb' ho' _
          subst hb'
          subst ho'
          rw [show (0 : Nat) + k * 32 = k * 32 from Nat.zero_add _] at hat'
          have hyl := HNL.out.all.at_ k hlt
          obtain ⟨y, hy⟩ : ∃ y, y = ([r1, old] : List (List UInt8)).getD k [] := ⟨_, rfl⟩
          rw [← hy] at hat' hyl
          have HYL := Lib.hid hyl
          have IY := Lib.hid (info_a32 y hyl)
          have FY := Lib.hid (show 0 + (c8 y).length ≤ zd.length by rw [c8_length, hyl]; decide)
          have EY := Lib.hid (show (c8 y).length = zd.length by rw [c8_length, hyl]; decide)
          have HAY := Lib.hid hat'
          have HK := Lib.hid (show k < 2 from hlt)
          clear hat' hy hyl hlt hk
          go_wp2_with (first | (refine wp_load rfl 26 (.tmp 43) rfl Try.underlying26 rfl ⟨w4.heap.size, k * 32, none⟩ rfl (c8 y) IY.out HAY.out ?_) | (refine wp_alloc (o := ⟨some 13, _, _, _, _, _⟩) rfl 26 rfl _ alloc_d32 ?_))
          intro w9 hr hg hz'
          clear hz'
          have hS9 := hS.new hr hg
          clear hr hg hS
          go_wp2_with (refine wp_storeAgg rfl 26 (.tmp 13) (.tmp 44) rfl wr.heap.size 0 26 zd (c8 y) rfl rfl (hS9.row 0 rfl) IY.out FY.out (one8 _) ?_)
          intro wA hr hg hz'
          clear hz'
          rw [splice_all EY.out] at hr
          have hSA := hS9.setRow 0 rfl hr hg
          clear hr hg hS9
          go_wp2_with fail
          have hSB := hSA.drew
          clear hSA
          refine wp_region_mixC (fun W => Own wv W _) (fun _ => true) [(0, true), (1, true), (2, true), (3, true), (4, true), (7, true), (8, true), (9, true), (10, true), (11, true), (5, false), (6, false), (12, false), (13, true)] (by kernel_rfl) (by kernel_rfl) hSB ?_
          refine wpMix_pureW (.agg (c8 old).toArray) rfl rfl (fun W hW => run_load_op 26 (.tmp 9) rfl Try.underlying26 rfl ⟨w2.heap.size, 0, none⟩ rfl _ INO.out (fun j u hu => hW.cell (HX8.out j u hu))) ?_
          iterate 1 (refine wpMix_step rfl (fun K hK => ?_); go_simp; (try go_bits); with_reducible refine hK _ ?_; clear hK K)
          refine wpMix_pureW (.agg (c8 y).toArray) rfl rfl (fun W hW => run_load_op 26 (.tmp 13) rfl Try.underlying26 rfl ⟨wr.heap.size, 0, none⟩ rfl _ IY.out (row_all (hW.row 0 rfl))) ?_
          iterate 2 (refine wpMix_step rfl (fun K hK => ?_); go_simp; (try go_bits); with_reducible refine hK _ ?_; clear hK K)
          refine wpMix_pureW (.agg (c8 old).toArray) rfl rfl (fun W hW => run_load_op 26 (.tmp 9) rfl Try.underlying26 rfl ⟨w2.heap.size, 0, none⟩ rfl _ INO.out (fun j u hu => hW.cell (HX8.out j u hu))) ?_
          iterate 1 (refine wpMix_step rfl (fun K hK => ?_); go_simp; (try go_bits); with_reducible refine hK _ ?_; clear hK K)
          refine wpMix_pureW (.agg (c8 y).toArray) rfl rfl (fun W hW => run_load_op 26 (.tmp 13) rfl Try.underlying26 rfl ⟨wr.heap.size, 0, none⟩ rfl _ IY.out (row_all (hW.row 0 rfl))) ?_
          iterate 2 (refine wpMix_step rfl (fun K hK => ?_); go_simp; (try go_bits); with_reducible refine hK _ ?_; clear hK K)
          refine wpMix_loudW _ rfl rfl ?_
          go_wp2_with fail
          refine (k2 _ _ _ (HD8.out.keep hSB.grown) HC1.out).mono ?_
          rintro e wB ⟨v, rfl, ho, hg⟩
          obtain ⟨AT, cT, rfl, hRT, hcT⟩ := ownsR_at ho HQL.out
          have hSC := hSB.call hg
          clear hg hSB ho
          go_wp2_with fail
          refine wpMix_next' (fun _ => hSC) ?_
          refine wpMix_loudW _ rfl rfl ?_
          go_wp2_with fail
          refine (kc _ _ _ _ HYL.out hRT hcT).mono ?_
          rintro e wC ⟨rfl, hg⟩
          have hSD := hSC.call hg
          clear hg hSC
          go_wp2_with fail
          refine wpMix_next' (fun _ => hSD) ?_
          refine wpMix_loudW _ rfl rfl ?_
          go_wp2_with fail
          refine (kr _ _ _ _ HYL.out (HD8.out.keep hSD.grown) HC1.out).mono ?_
          rintro e wD ⟨rfl, hg⟩
          have hSE := hSD.call hg
          clear hg hSD
          go_wp2_with fail
          refine wpMix_next' (fun _ => hSE) ?_
          iterate 1 (refine wpMix_step rfl (fun K hK => ?_); go_simp; (try go_bits); with_reducible refine hK _ ?_; clear hK K)
          unfold wpMix
          clear hRT hcT
          have hSF : Own wv _ [] := hSE.sub (List.nil_sublist _)
          clear hSE
          go_wp2
          go_roundw
          case rel => exact ⟨k + 1, by have := HK.out; omega, by go_num, hSF⟩
          case measure => have := HK.out; simp [intOf] <;> omega
        · obtain rfl : k = 2 := by omega
          clear hlt hk
          go_wp2_with fail
          go_wp2_with fail
          refine (awake_any _).mono ?_
          rintro e wZ ⟨rfl, hg⟩
          have hSZ := hS.call hg
          clear hg hS
          go_wp2_with fail
          go_ret
          exact ⟨rfl, grownBy_trans HGV.out hSZ.grown⟩
  · have d1 : decide (0 < m) = false := by simp; omega
    obtain ⟨wv, hwv⟩ : ∃ wv, wv = w8 := ⟨_, rfl⟩
    rw [← hwv] at hT8
    rw [← hwv]
    clear hwv w8
    have HNL := Lib.hid (show Rows32 wv (some ⟨w4.heap.size, 0, none⟩) 2 [r1, old] by obtain ⟨A8, c8', hv, hr8, hc8⟩ := ownsR_at (hT8.rows 0 rfl) (m := 2) rfl; injection hv with e1 e2 e3; subst e1; subst e3; exact hr8)
    have HX8 := Lib.hid (row_all (hT8.row 1 rfl))
    have HD8 := Lib.hid (HW.out.keep hT8.grown)
    have HGV := Lib.hid (grownBy_trans HG2.out hT8.grown)
    clear HW HG2 HP0 HP1 hT8 kg
    have hU := Own.start wv
    go_wp2
    go_loopw [41] (fun iv wr => ∃ k : Nat, k ≤ 2 ∧ iv = .int .i64 (k : Int) ∧ Own wv wr []) (fun iv _ => 2 - (intOf iv).toNat)
    case atStart => exact ⟨0, by omega, rfl, hU⟩
    case round =>
      clear hU
      obtain ⟨k, hk, rfl, hS⟩ := hrel
      by_cases hlt : k < 2
      · have p1 : (k : Int) < 2 := by omega
        obtain ⟨b', off', hA', hat'⟩ := (HNL.out.keep hS.grown).at_ k hlt
        injection hA' with hA'
        injection hA' with hb' ho' _
        subst hb'
        subst ho'
        rw [show (0 : Nat) + k * 32 = k * 32 from Nat.zero_add _] at hat'
        have hyl := HNL.out.all.at_ k hlt
        obtain ⟨y, hy⟩ : ∃ y, y = ([r1, old] : List (List UInt8)).getD k [] := ⟨_, rfl⟩
        rw [← hy] at hat' hyl
        have HYL := Lib.hid hyl
        have IY := Lib.hid (info_a32 y hyl)
        have FY := Lib.hid (show 0 + (c8 y).length ≤ zd.length by rw [c8_length, hyl]; decide)
        have EY := Lib.hid (show (c8 y).length = zd.length by rw [c8_length, hyl]; decide)
        have HAY := Lib.hid hat'
        have HK := Lib.hid (show k < 2 from hlt)
        clear hat' hy hyl hlt hk
        go_wp2_with (first | (refine wp_load rfl 26 (.tmp 43) rfl Try.underlying26 rfl ⟨w4.heap.size, k * 32, none⟩ rfl (c8 y) IY.out HAY.out ?_) | (refine wp_alloc (o := ⟨some 13, _, _, _, _, _⟩) rfl 26 rfl _ alloc_d32 ?_))
        intro w9 hr hg hz'
        clear hz'
        have hS9 := hS.new hr hg
        clear hr hg hS
        go_wp2_with (refine wp_storeAgg rfl 26 (.tmp 13) (.tmp 44) rfl wr.heap.size 0 26 zd (c8 y) rfl rfl (hS9.row 0 rfl) IY.out FY.out (one8 _) ?_)
        intro wA hr hg hz'
        clear hz'
        rw [splice_all EY.out] at hr
        have hSA := hS9.setRow 0 rfl hr hg
        clear hr hg hS9
        go_wp2_with fail
        have hSB := hSA.drew
        clear hSA
        refine wp_region_mixC (fun W => Own wv W _) (fun _ => true) [(0, true), (1, true), (2, true), (3, true), (4, true), (7, true), (8, true), (9, true), (10, true), (11, true), (5, false), (6, false), (12, false), (13, true)] (by kernel_rfl) (by kernel_rfl) hSB ?_
        refine wpMix_pureW (.agg (c8 old).toArray) rfl rfl (fun W hW => run_load_op 26 (.tmp 9) rfl Try.underlying26 rfl ⟨w2.heap.size, 0, none⟩ rfl _ INO.out (fun j u hu => hW.cell (HX8.out j u hu))) ?_
        iterate 1 (refine wpMix_step rfl (fun K hK => ?_); go_simp; (try go_bits); with_reducible refine hK _ ?_; clear hK K)
        refine wpMix_pureW (.agg (c8 y).toArray) rfl rfl (fun W hW => run_load_op 26 (.tmp 13) rfl Try.underlying26 rfl ⟨wr.heap.size, 0, none⟩ rfl _ IY.out (row_all (hW.row 0 rfl))) ?_
        iterate 2 (refine wpMix_step rfl (fun K hK => ?_); go_simp; (try go_bits); with_reducible refine hK _ ?_; clear hK K)
        refine wpMix_pureW (.agg (c8 old).toArray) rfl rfl (fun W hW => run_load_op 26 (.tmp 9) rfl Try.underlying26 rfl ⟨w2.heap.size, 0, none⟩ rfl _ INO.out (fun j u hu => hW.cell (HX8.out j u hu))) ?_
        iterate 1 (refine wpMix_step rfl (fun K hK => ?_); go_simp; (try go_bits); with_reducible refine hK _ ?_; clear hK K)
        refine wpMix_pureW (.agg (c8 y).toArray) rfl rfl (fun W hW => run_load_op 26 (.tmp 13) rfl Try.underlying26 rfl ⟨wr.heap.size, 0, none⟩ rfl _ IY.out (row_all (hW.row 0 rfl))) ?_
        iterate 2 (refine wpMix_step rfl (fun K hK => ?_); go_simp; (try go_bits); with_reducible refine hK _ ?_; clear hK K)
        refine wpMix_loudW _ rfl rfl ?_
        go_wp2_with fail
        refine (k2 _ _ _ (HD8.out.keep hSB.grown) HC1.out).mono ?_
        rintro e wB ⟨v, rfl, ho, hg⟩
        obtain ⟨AT, cT, rfl, hRT, hcT⟩ := ownsR_at ho HQL.out
        have hSC := hSB.call hg
        clear hg hSB ho
        go_wp2_with fail
        refine wpMix_next' (fun _ => hSC) ?_
        refine wpMix_loudW _ rfl rfl ?_
        go_wp2_with fail
        refine (kc _ _ _ _ HYL.out hRT hcT).mono ?_
        rintro e wC ⟨rfl, hg⟩
        have hSD := hSC.call hg
        clear hg hSC
        go_wp2_with fail
        refine wpMix_next' (fun _ => hSD) ?_
        refine wpMix_loudW _ rfl rfl ?_
        go_wp2_with fail
        refine (kr _ _ _ _ HYL.out (HD8.out.keep hSD.grown) HC1.out).mono ?_
        rintro e wD ⟨rfl, hg⟩
        have hSE := hSD.call hg
        clear hg hSD
        go_wp2_with fail
        refine wpMix_next' (fun _ => hSE) ?_
        iterate 1 (refine wpMix_step rfl (fun K hK => ?_); go_simp; (try go_bits); with_reducible refine hK _ ?_; clear hK K)
        unfold wpMix
        clear hRT hcT
        have hSF : Own wv _ [] := hSE.sub (List.nil_sublist _)
        clear hSE
        go_wp2
        go_roundw
        case rel => exact ⟨k + 1, by have := HK.out; omega, by go_num, hSF⟩
        case measure => have := HK.out; simp [intOf] <;> omega
      · obtain rfl : k = 2 := by omega
        clear hlt hk
        go_wp2_with fail
        go_wp2_with fail
        refine (awake_any _).mono ?_
        rintro e wZ ⟨rfl, hg⟩
        have hSZ := hS.call hg
        clear hg hS
        go_wp2_with fail
        go_ret
        exact ⟨rfl, grownBy_trans HGV.out hSZ.grown⟩
theorem walk_MerkleExtends (w : World) (b0 : List UInt8) (hb0 : b0.length = 64) (m : Int) (wm : (Lit.int .i64 m).wf = true) (n : Int) (wn : (Lit.int .i64 n).wf = true) (A : Option Addr) (l c : Nat) (b : List UInt8) (hn : b.length = l * 32) (hb : Bytes w A b) (hle : l ≤ c) (hr : c * 32 ≤ 140737488351232) (hnil : A = none → c = 0) :
    Calls Try.prog 7 #[.agg (c8 b0).toArray, .int .i64 m, .int .i64 n, .slice A l c] w fun e w' => e = .returned (.bool true) ∧ w.grownBy w' none := by
  obtain ⟨L, rfl, rfl, hL⟩ := Rows32.of_flat hn hb hle hnil
  obtain ⟨old, r1, rfl, ho, hr1⟩ : ∃ old r1 : List UInt8, b0 = old ++ r1 ∧ old.length = 32 ∧ r1.length = 32 := ⟨b0.take 32, b0.drop 32, (List.take_append_drop _ _).symm, by simp; omega, by simp; omega⟩
  have hmw : -9223372036854775808 ≤ m ∧ m ≤ 9223372036854775807 := of_i64 wm
  have hnw : -9223372036854775808 ≤ n ∧ n ≤ 9223372036854775807 := of_i64 wn
  have hz : zeros32.length = 32 := by simp [zeros32]
  have hall := hL.all.take 70
  have hlen : (L.take 70).length ≤ 70 := by simp; omega
  obtain ⟨Wy, hW⟩ : ∃ Wy, Wy = L.take 70 := ⟨_, rfl⟩
  have hcut := fun W (hg : w.grownBy W none) => cut_any A c L 70 W (hL.keep hg) (by omega) (by omega)
  rw [← hW] at hall hlen hcut
  have hgl := growO_len n.toNat m.toNat n.toNat old true Wy (Nat.le_refl _) ho hall
  refine extends_core w old r1 ((growO old m.toNat n.toNat true Wy).map (fun x => x.2.1) |>.getD zeros32) m n A L.length c Wy.length Wy (fun r => extZ old m r n Wy) (Lib.hid ho) (Lib.hid hr1) (Lib.hid ?_) (Lib.hid rfl) (by omega) hmw.1 hmw.2 hnw.1 hnw.2 hcut
    (fun h1 h2 A c W hW hc => ?_) (fun A c W hW hc => to_any A c Wy W hW (by omega)) (fun r A c W h1 h2 h3 => ext_any m n old r A c Wy W ho h1 h2 h3 hnw.2) (fun r A c W h1 h2 h3 => rext_any m n old r A c Wy W ho h1 h2 h3 hnw.2)
  · match hoo : growO old m.toNat n.toNat true Wy with
    | none => exact hz
    | some (x, y, r) => exact (hgl x y r hoo).2.1
  · have em : ((m.toNat : Nat) : Int) = m := by omega
    have en : ((n.toNat : Nat) : Int) = n := by omega
    have hg := rgrow_any n.toNat m.toNat n.toNat old true A c Wy W W (Nat.le_refl _) (by omega) (by omega) (by omega) ho (grownBy_refl _ _) hW hc
    rw [em, en] at hg
    refine hg.mono fun e w' h => ?_
    obtain ⟨h3, h4⟩ := h
    revert h3
    match hoo : growO old m.toNat n.toNat true Wy with
    | none => intro h3; exact ⟨_, _, _, _, _, h3, Lib.hid hz, h4⟩
    | some (x, y, r) => intro h3; exact ⟨_, _, _, _, _, h3, Lib.hid (hgl x y r hoo).1, h4⟩
end Go.Proofs.Ytpohjldhbaalbaa
