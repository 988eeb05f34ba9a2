/- The walk of the law ChainForges. -/
import Derived.Test.YtfaekebglijebaaMeets
import Derived.Test.YtfaekebglijebaaRSign
import Derived.Test.YtfaekebglijebaaRRecov
import Derived.Test.YtfaekebglijebaaTo4
import Derived.Test.YtfaekebglijebaaRDigits
import Derived.Test.YtfaekebglijebaaWf
import Derived.Laws.BitsAllLaws
namespace Go.Proofs.Ytfaekebglijebaa
open Go.RowKit
set_option linter.unusedVariables false

theorem w_xor8 (a b : UInt8) : bits .xor .u8 (n8 a) (n8 b) = n8 (a ^^^ b) := by
  unfold n8; rw [u8_xor_nat _ _ a.toNat_lt b.toNat_lt, UInt8.toNat_xor]

set_option maxRecDepth 100000 in
set_option maxHeartbeats 40000000 in
theorem forges_core (w : World) (x S H M G G2 E T U V DM DH : List UInt8) (key r q : Nat) (at_ tn y0 z : Int)
    (HX : Hid (x.length = 32)) (HSS : Hid (S.length = 64)) (HH : Hid (H.length = 32)) (HM : Hid (M.length = 32)) (HG : Hid (G.length = 2144)) (HG2 : Hid (G2.length = 2144)) (HE : Hid (E.length = 2144)) (HT : Hid (T.length = 2144)) (HU : Hid (U.length = 32)) (HV : Hid (V.length = 32)) (HDM : Hid (DM.length = 67)) (HDH : Hid (DH.length = 67))
    (HC0 : Hid (chunk32 S 0 = H)) (HC1 : Hid (chunk32 S 1 = M)) (HSET : Hid ((c8 G).set (r * 32 + q) (.int .u8 z) = c8 G2)) (HY : Hid ((c8 G)[r * 32 + q]? = some (.int .u8 y0))) (hxor : bits .xor .u8 y0 tn = z)
    (HR67 : Hid (r < 67)) (HQ32 : Hid (q < 32)) (a0 : -9223372036854775808 ≤ at_) (a1 : at_ ≤ 9223372036854775807) (hat : (IntKind.u64.wrap at_).tmod 67 = (r : Int)) (hat2 : wrap64 (r : Int) = (r : Int)) (hq : (r : Int) % 32 = (q : Int)) (r0 : (0 : Int) ≤ (r : Int)) (r1 : (r : Int) < 67) (q0 : (0 : Int) ≤ (q : Int)) (q1 : (q : Int) < 32)
    (y00 : 0 ≤ y0) (y01 : y0 ≤ 255) (tn0 : 0 ≤ tn) (tn1 : tn ≤ 255) (z0 : 0 ≤ z) (z1 : z ≤ 255)
    (c1 : ∀ W, Calls Try.prog 22 #[.agg (c8 x).toArray, .int .u32 (key : Int), .agg (c8 H).toArray] W fun e w' => e = .returned (.agg (c8 G).toArray) ∧ W.grownBy w' none)
    (c2 : ∀ W, Calls Try.prog 20 #[.agg (c8 G2).toArray] W fun e w' => e = .returned (.agg (c8 G2).toArray) ∧ W.grownBy w' none)
    (c3 : ∀ W, Calls Try.prog 19 #[.int .u32 (key : Int), .agg (c8 M).toArray, .agg (c8 G2).toArray] W fun e w' => e = .returned (.agg (c8 U).toArray) ∧ W.grownBy w' none)
    (c4 : ∀ W, Calls Try.prog 23 #[.agg (c8 x).toArray, .int .u32 (key : Int)] W fun e w' => e = .returned (.agg (c8 V).toArray) ∧ W.grownBy w' none)
    (c5 : ∀ W, Calls Try.prog 24 #[.agg (c8 x).toArray, .int .u32 (key : Int)] W fun e w' => e = .returned (.agg (c8 E).toArray) ∧ W.grownBy w' none)
    (c6 : ∀ W, Calls Try.prog 25 #[.int .u32 (key : Int), .agg (c8 M).toArray, .agg (c8 G2).toArray] W fun e w' => e = .returned (.agg (c8 T).toArray) ∧ W.grownBy w' none)
    (c7 : ∀ W, Calls Try.prog 26 #[.agg (c8 T).toArray] W fun e w' => e = .returned (.agg (c8 U).toArray) ∧ W.grownBy w' none)
    (c8' : ∀ W, Calls Try.prog 26 #[.agg (c8 E).toArray] W fun e w' => e = .returned (.agg (c8 V).toArray) ∧ W.grownBy w' none)
    (c9 : ∀ W, Calls Try.prog 14 #[.agg (c8 M).toArray] W fun e w' => e = .returned (.agg (c8 DM).toArray) ∧ W.grownBy w' none)
    (cA : ∀ W, Calls Try.prog 14 #[.agg (c8 H).toArray] W fun e w' => e = .returned (.agg (c8 DH).toArray) ∧ W.grownBy w' none)
    (R : Nat → Bool) (fd gd : Nat → Nat) (HF : Hid (∀ k, k < 67 → fd k < 16 ∧ (c8 DM)[k]? = some (.int .u8 (fd k : Int)))) (HGG : Hid (∀ k, k < 67 → gd k < 16 ∧ (c8 DH)[k]? = some (.int .u8 (gd k : Int))))
    (cB : ∀ (k : Nat) W, k < 67 → Calls Try.prog 27 #[.int .u32 (key : Int), .int .u8 (k : Int), .agg (c8 (chunk32 G2 k)).toArray, .int .i64 (fd k : Int), .agg (c8 (chunk32 G k)).toArray, .int .i64 (gd k : Int)] W fun e w' => e = .returned (.bool (R k)) ∧ W.grownBy w' none)
    (eU : ∀ W : World, (Op.equalIn 10000 24 (.agg (c8 U).toArray) (.agg (c8 V).toArray)).run Try.prog W = .ok (decide (U = V)) W)
    (eU2 : ∀ W : World, (Op.equalIn 10000 22 (.agg (c8 U).toArray) (.agg (c8 V).toArray)).run Try.prog W = .ok (decide (U = V)) W)
    (eM : ∀ W : World, (Op.equalIn 10000 22 (.agg (c8 M).toArray) (.agg (c8 H).toArray)).run Try.prog W = .ok (decide (M = H)) W)
    (eT : ∀ W : World, (Op.equalIn 10000 45 (.agg (c8 T).toArray) (.agg (c8 E).toArray)).run Try.prog W = .ok (decide (T = E)) W)
    (eG : ∀ W : World, (Op.equalIn 10000 45 (.agg (c8 G2).toArray) (.agg (c8 G).toArray)).run Try.prog W = .ok (decide (G2 = G)) W)
    (L1 : Hid (U ≠ V → M = H → tn ≠ 0)) (L2 : Hid (T = E → ¬ (M = H ∧ G2 = G) → ∃ k, k < 67 ∧ R k = true)) :
    Calls Try.prog 8 #[.agg (c8 x).toArray, .int .u32 (key : Int), .agg (c8 S).toArray, .int .i64 at_, .int .u8 tn] w fun e w' => e = .returned (.bool true) ∧ w.grownBy w' none := by
  have IX := Lib.hid (info_a32 x HX.out)
  have IH := Lib.hid (info_a32 H HH.out)
  have IM := Lib.hid (info_a32 M HM.out)
  have IG := Lib.hid (info_f32 G HG.out)
  have IG2 := Lib.hid (info_f32 G2 HG2.out)
  have IE := Lib.hid (info_f32 E HE.out)
  have IT := Lib.hid (info_f32 T HT.out)
  have IDM := Lib.hid (info_67 DM HDM.out)
  have IDH := Lib.hid (info_67 DH HDH.out)
  have FH := Lib.hid (show 0 + (c8 H).length ≤ zd.length by rw [c8_length, HH.out]; decide)
  have EH := Lib.hid (show (c8 H).length = zd.length by rw [c8_length, HH.out]; decide)
  have FM := Lib.hid (show 0 + (c8 M).length ≤ zd.length by rw [c8_length, HM.out]; decide)
  have EM := Lib.hid (show (c8 M).length = zd.length by rw [c8_length, HM.out]; decide)
  have FG := Lib.hid (show 0 + (c8 G).length ≤ (c8 z2144).length by rw [c8_length, c8_length, HG.out]; simp [z2144])
  have EG := Lib.hid (show (c8 G).length = (c8 z2144).length by rw [c8_length, c8_length, HG.out]; simp [z2144])
  have FE := Lib.hid (show 0 + (c8 E).length ≤ (c8 z2144).length by rw [c8_length, c8_length, HE.out]; simp [z2144])
  have EE := Lib.hid (show (c8 E).length = (c8 z2144).length by rw [c8_length, c8_length, HE.out]; simp [z2144])
  have FT := Lib.hid (show 0 + (c8 T).length ≤ (c8 z2144).length by rw [c8_length, c8_length, HT.out]; simp [z2144])
  have ET := Lib.hid (show (c8 T).length = (c8 z2144).length by rw [c8_length, c8_length, HT.out]; simp [z2144])
  have FDM := Lib.hid (show 0 + (c8 DM).length ≤ (c8 z67).length by rw [c8_length, c8_length, HDM.out]; decide)
  have EDM := Lib.hid (show (c8 DM).length = (c8 z67).length by rw [c8_length, c8_length, HDM.out]; decide)
  have FDH := Lib.hid (show 0 + (c8 DH).length ≤ (c8 z67).length by rw [c8_length, c8_length, HDH.out]; decide)
  have EDH := Lib.hid (show (c8 DH).length = (c8 z67).length by rw [c8_length, c8_length, HDH.out]; decide)
  have HK0 := Lib.hid (show ∀ (W : World) (b : Nat) (t : TypeId), Row W b t (c8 S) → ∀ j v, (c8 H)[j]? = some v → W.cell? ((⟨b, 0, none⟩ : Addr).add j) = some v by
    intro W b t h; have := row_chunk h 0; rw [HC0.out] at this; simpa using this)
  have HK1 := Lib.hid (show ∀ (W : World) (b : Nat) (t : TypeId), Row W b t (c8 S) → ∀ j v, (c8 M)[j]? = some v → W.cell? ((⟨b, 32, none⟩ : Addr).add j) = some v by
    intro W b t h; have := row_chunk h 1; rw [HC1.out] at this; simpa using this)
  go_enter Try.func8, Try.ntmps8
  go_wp2_with (refine wp_box (o := ⟨some 5, _, _, _, _, _⟩) rfl 22 (.tmp 0) rfl (c8 x) rfl ?_)
  intro w1 hr hg hz
  clear hz
  have hS1 := ((Own.start w)).new hr hg
  clear hr hg
  go_wp2_with (refine wp_box (o := ⟨some 7, _, _, _, _, _⟩) rfl 51 (.tmp 2) rfl (c8 S) rfl ?_)
  intro w2 hr hg hz
  clear hz
  have hS2 := (hS1).new hr hg
  clear hr hg
  clear hS1
  go_wp2_with fail
  refine (awake_any _).mono ?_
  rintro e w3 ⟨rfl, hg⟩
  have hS3 := hS2.call hg
  clear hg hS2
  go_wp2_with fail
  have hSd := hS3.drew
  clear hS3
  refine wp_region_dag (w0 := w) (L0 := [rowE w1.heap.size 51 (c8 S), rowE w.heap.size 22 (c8 x)]) (fun _ => true) [0, 1, 2, 3] [(4, 11, .new 22 (zd)), (5, 12, .new 22 (zd))] [6, 7] (by kernel_rfl) (by simp) (by simp) hSd (by kernel_rfl) ?_
  simp only [List.map_cons, List.map_nil]
  iterate 1 (refine wpMix_step rfl (fun K hK => ?_); go_simp; (try go_bits); with_reducible refine hK _ ?_; clear hK K)
  refine wpMix_pureW (.agg (c8 H).toArray) rfl rfl (fun W hW => run_load_op 22 (.tmp 22) rfl Try.underlying22 rfl ⟨w1.heap.size, 0, none⟩ rfl _ IH.out (HK0.out _ _ _ (hW.row 0 rfl))) ?_
  iterate 1 (refine wpMix_step rfl (fun K hK => ?_); go_simp; (try go_bits); with_reducible refine hK _ ?_; clear hK K)
  refine wpMix_pureW (.agg (c8 M).toArray) rfl rfl (fun W hW => run_load_op 22 (.tmp 24) rfl Try.underlying22 rfl ⟨w1.heap.size, 32, none⟩ rfl _ IM.out (HK1.out _ _ _ (hW.row 0 rfl))) ?_
  change DagGoal _ _ _ _ _ _ _ _ _ _ _
  refine ⟨⟨?_, ?_, trivial⟩, ?_⟩
  · refine ⟨_, rfl, rfl, fun f W K hS hK => ?_⟩
    simp only [putsL]
    go_wp2_with (refine wp_alloc (o := ⟨some 11, _, _, _, _, _⟩) rfl 22 rfl _ alloc_d32 ?_)
    intro w' hr hg hz
    go_wp2_with fail
    exact hK _ _ (by kernel_rfl) hr hg
  · refine ⟨_, rfl, rfl, fun f W K hS hK => ?_⟩
    simp only [putsL]
    go_wp2_with (refine wp_alloc (o := ⟨some 12, _, _, _, _, _⟩) rfl 22 rfl _ alloc_d32 ?_)
    intro w' hr hg hz
    go_wp2_with fail
    exact hK _ _ (by kernel_rfl) hr hg
  · intro g W hW hD
    have hD0 : Own w W [rowE (g 11) 22 zd, rowE (g 12) 22 zd, rowE w1.heap.size 51 (c8 S), rowE w.heap.size 22 (c8 x)] := hD
    obtain ⟨g11, hg11⟩ : ∃ g11, g11 = g 11 := ⟨_, rfl⟩
    obtain ⟨g12, hg12⟩ : ∃ g12, g12 = g 12 := ⟨_, rfl⟩
    rw [← hg11, ← hg12] at hD0
    simp only [putsS, List.map_cons, List.map_nil, ← hg11, ← hg12]
    clear hD hW hg11 hg12
    go_simp
    clear hSd
    refine wpMix_loudW _ rfl rfl ?_
    go_wp2_with (refine wp_storeAgg rfl 22 (.tmp 11) (.tmp 23) rfl g11 0 22 zd (c8 H) rfl rfl (hD0.row 0 rfl) IH.out FH.out (one8 _) ?_)
    intro wa hr hg hz
    clear hz
    rw [splice_all EH.out] at hr
    have hD1 := hD0.setRow 0 rfl hr hg
    clear hr hg hD0
    go_wp2_with fail
    refine wpMix_next' (fun _ => hD1.tail.tail) ?_
    refine wpMix_loudW _ rfl rfl ?_
    go_wp2_with (refine wp_storeAgg rfl 22 (.tmp 12) (.tmp 25) rfl g12 0 22 zd (c8 M) rfl rfl (hD1.row 1 rfl) IM.out FM.out (one8 _) ?_)
    intro wb hr hg hz
    clear hz
    rw [splice_all EM.out] at hr
    have hD2 := hD1.setRow 1 rfl hr hg
    clear hr hg hD1
    go_wp2_with fail
    refine wpMix_next' (fun _ => hD2.tail.tail) ?_
    unfold wpMix
    go_wp2_with (first | (refine wp_load rfl 22 (.tmp 5) rfl Try.underlying22 rfl ⟨w.heap.size, 0, none⟩ rfl (c8 x) IX.out (row_all (hD2.row 3 rfl)) ?_) | (refine wp_load rfl 22 (.tmp 11) rfl Try.underlying22 rfl ⟨g11, 0, none⟩ rfl (c8 H) IH.out (row_all (hD2.row 0 rfl)) ?_))
    refine (c1 _).mono ?_
    rintro e w5 ⟨rfl, hg⟩
    have hS5 := hD2.call hg
    clear hg hD2
    go_wp2_with (refine wp_alloc (o := ⟨some 13, _, _, _, _, _⟩) rfl 45 rfl _ alloc_f32 ?_)
    intro w6 hr hg hz
    clear hz
    have hS6 := hS5.new hr hg
    clear hr hg
    go_wp2_with (refine wp_storeAgg rfl 45 (.tmp 13) (.tmp 29) rfl w5.heap.size 0 45 (c8 z2144) (c8 G) rfl rfl (hS6.row 0 rfl) IG.out FG.out (one8 _) ?_)
    intro w7 hr hg hz
    clear hz
    rw [splice_all EG.out] at hr
    have hS7 := hS6.setRow 0 rfl hr hg
    clear hr hg hS6
    clear hS5
    go_wp2_with fail
    have hS8 := hS7.drew
    clear hS7
    refine wp_region_mixC (fun W => Own w W _) (fun i => i != 10) [(0, true), (1, true), (2, true), (3, true), (4, true), (5, true), (6, true), (7, true), (8, false), (9, false), (10, false)] (by kernel_rfl) (by kernel_rfl) hS8 ?_
    iterate 5 (refine wpMix_step rfl (fun K hK => ?_); go_simp; (try go_bits); with_reducible refine hK _ ?_; clear hK K)
    refine wpMix_pureW _ rfl rfl (fun W hW => run_load_cell 5 (.tmp 38) rfl Try.underlying5 rfl ⟨w5.heap.size, (r * 32 + q), none⟩ rfl _ (((hW.row 0 rfl).cell (r * 32 + q)).trans HY.out)) ?_
    iterate 2 (refine wpMix_step rfl (fun K hK => ?_); go_simp; (try go_bits); with_reducible refine hK _ ?_; clear hK K)
    refine wpMix_loudW _ rfl rfl ?_
    go_wp2_with fail
    refine wpMix_next' (fun _ => hS8) ?_
    refine wpMix_loudW _ rfl rfl ?_
    go_wp2_with fail
    refine wpMix_next' (fun _ => hS8) ?_
    
    have f0 := (hS8.row 0 rfl).frozen (r * 32 + q)
    have f1 := ((hS8.row 0 rfl).cell (r * 32 + q)).trans HY.out
    have hS9 := hS8.set 0 rfl (r * 32 + q) (.int .u8 z)
    rw [HSET.out] at hS9
    clear hS8
    refine wpMix_loudW _ rfl rfl ?_
    go_wp2_with fail
    refine wpMix_next' (fun h => absurd h (by decide)) ?_
    unfold wpMix
    clear f0 f1
    obtain ⟨wc, hwc⟩ : ∃ wc, wc = (w7.setCell ⟨w5.heap.size, r * 32 + q, none⟩ (.int .u8 z)).drew := ⟨_, rfl⟩
    have hSW : Own w wc [rowE w5.heap.size 45 (c8 G2), rowE g11 22 (c8 H), rowE g12 22 (c8 M), rowE w1.heap.size 51 (c8 S), rowE w.heap.size 22 (c8 x)] := by rw [hwc]; exact hS9
    rw [← hwc]
    clear hwc hxor hS9
    go_wp2_with fail
    have hSA := hSW.drew
    clear hSW
    refine wp_region_mixC (fun W => Own w W _) (fun _ => true) [(0, true), (1, true), (2, true), (5, true), (6, true), (3, false), (4, false), (7, false), (8, true)] (by kernel_rfl) (by kernel_rfl) hSA ?_
    iterate 1 (refine wpMix_step rfl (fun K hK => ?_); go_simp; (try go_bits); with_reducible refine hK _ ?_; clear hK K)
    refine wpMix_pureW (.agg (c8 M).toArray) rfl rfl (fun W hW => run_load_op 22 (.tmp 12) rfl Try.underlying22 rfl ⟨g12, 0, none⟩ rfl _ IM.out (row_all (hW.row 2 rfl))) ?_
    refine wpMix_pureW (.agg (c8 G2).toArray) rfl rfl (fun W hW => run_load_op 45 (.tmp 13) rfl Try.underlying45 rfl ⟨w5.heap.size, 0, none⟩ rfl _ IG2.out (row_all (hW.row 0 rfl))) ?_
    refine wpMix_pureW (.agg (c8 x).toArray) rfl rfl (fun W hW => run_load_op 22 (.tmp 5) rfl Try.underlying22 rfl ⟨w.heap.size, 0, none⟩ rfl _ IX.out (row_all (hW.row 4 rfl))) ?_
    iterate 1 (refine wpMix_step rfl (fun K hK => ?_); go_simp; (try go_bits); with_reducible refine hK _ ?_; clear hK K)
    refine wpMix_loudW _ rfl rfl ?_
    go_wp2_with fail
    refine (c2 _).mono ?_
    rintro e wB ⟨rfl, hg⟩
    have hSB := hSA.call hg
    clear hg hSA
    go_wp2_with fail
    refine wpMix_next' (fun _ => hSB) ?_
    refine wpMix_loudW _ rfl rfl ?_
    go_wp2_with fail
    refine (c3 _).mono ?_
    rintro e wC ⟨rfl, hg⟩
    have hSC := hSB.call hg
    clear hg hSB
    go_wp2_with fail
    refine wpMix_next' (fun _ => hSC) ?_
    refine wpMix_loudW _ rfl rfl ?_
    go_wp2_with fail
    refine (c4 _).mono ?_
    rintro e wD ⟨rfl, hg⟩
    have hSD := hSC.call hg
    clear hg hSC
    go_wp2_with fail
    refine wpMix_next' (fun _ => hSD) ?_
    by_cases hUV : U = V
    · clear L1
      rw [decide_eq_true hUV] at eU eU2
      clear hUV
      iterate 1 (refine wpMix_step rfl (fun K hK => ?_); go_simp; (try go_bits); with_reducible refine hK _ ?_; clear hK K)
      unfold wpMix
      go_wp2_with fail
      have hSE := hSD.drew
      clear hSD
      refine wp_region_dag (w0 := w) (L0 := [rowE w5.heap.size 45 (c8 G2), rowE g11 22 (c8 H), rowE g12 22 (c8 M), rowE w1.heap.size 51 (c8 S), rowE w.heap.size 22 (c8 x)]) (fun _ => true) [0, 1, 2, 4, 5, 7, 8, 9] [(3, 63, .val (.agg (c8 G).toArray)), (6, 66, .val (.agg (c8 E).toArray)), (10, 70, .val (.agg (c8 T).toArray)), (11, 14, .new 45 (c8 z2144)), (12, 15, .new 45 (c8 z2144)), (13, 16, .new 45 (c8 z2144))] [14, 15, 16] (by kernel_rfl) (by simp) (by simp) hSE (by kernel_rfl) ?_
      simp only [List.map_cons, List.map_nil]
      refine wpMix_pureW (.agg (c8 x).toArray) rfl rfl (fun W hW => run_load_op 22 (.tmp 5) rfl Try.underlying22 rfl ⟨w.heap.size, 0, none⟩ rfl _ IX.out (row_all (hW.row 4 rfl))) ?_
      iterate 1 (refine wpMix_step rfl (fun K hK => ?_); go_simp; (try go_bits); with_reducible refine hK _ ?_; clear hK K)
      refine wpMix_pureW (.agg (c8 H).toArray) rfl rfl (fun W hW => run_load_op 22 (.tmp 11) rfl Try.underlying22 rfl ⟨g11, 0, none⟩ rfl _ IH.out (row_all (hW.row 1 rfl))) ?_
      refine wpMix_pureW (.agg (c8 x).toArray) rfl rfl (fun W hW => run_load_op 22 (.tmp 5) rfl Try.underlying22 rfl ⟨w.heap.size, 0, none⟩ rfl _ IX.out (row_all (hW.row 4 rfl))) ?_
      iterate 2 (refine wpMix_step rfl (fun K hK => ?_); go_simp; (try go_bits); with_reducible refine hK _ ?_; clear hK K)
      refine wpMix_pureW (.agg (c8 M).toArray) rfl rfl (fun W hW => run_load_op 22 (.tmp 12) rfl Try.underlying22 rfl ⟨g12, 0, none⟩ rfl _ IM.out (row_all (hW.row 2 rfl))) ?_
      refine wpMix_pureW (.agg (c8 G2).toArray) rfl rfl (fun W hW => run_load_op 45 (.tmp 13) rfl Try.underlying45 rfl ⟨w5.heap.size, 0, none⟩ rfl _ IG2.out (row_all (hW.row 0 rfl))) ?_
      change DagGoal _ _ _ _ _ _ _ _ _ _ _
      refine ⟨⟨?_, ?_, ?_, ?_, ?_, ?_, trivial⟩, ?_⟩
      · refine ⟨_, rfl, rfl, fun f W K hS hK => ?_⟩
        simp only [putsL]
        go_wp2_with fail
        refine (c1 _).mono ?_
        rintro e w' ⟨rfl, hg⟩
        go_wp2_with fail
        exact hK _ _ (by kernel_rfl) hg
      · refine ⟨_, rfl, rfl, fun f W K hS hK => ?_⟩
        simp only [putsL]
        go_wp2_with fail
        refine (c5 _).mono ?_
        rintro e w' ⟨rfl, hg⟩
        go_wp2_with fail
        exact hK _ _ (by kernel_rfl) hg
      · refine ⟨_, rfl, rfl, fun f W K hS hK => ?_⟩
        simp only [putsL]
        go_wp2_with fail
        refine (c6 _).mono ?_
        rintro e w' ⟨rfl, hg⟩
        go_wp2_with fail
        exact hK _ _ (by kernel_rfl) hg
      · refine ⟨_, rfl, rfl, fun f W K hS hK => ?_⟩
        simp only [putsL]
        go_wp2_with (refine wp_alloc (o := ⟨some 14, _, _, _, _, _⟩) rfl 45 rfl _ alloc_f32 ?_)
        intro w' hr hg hz
        go_wp2_with fail
        exact hK _ _ (by kernel_rfl) hr hg
      · refine ⟨_, rfl, rfl, fun f W K hS hK => ?_⟩
        simp only [putsL]
        go_wp2_with (refine wp_alloc (o := ⟨some 15, _, _, _, _, _⟩) rfl 45 rfl _ alloc_f32 ?_)
        intro w' hr hg hz
        go_wp2_with fail
        exact hK _ _ (by kernel_rfl) hr hg
      · refine ⟨_, rfl, rfl, fun f W K hS hK => ?_⟩
        simp only [putsL]
        go_wp2_with (refine wp_alloc (o := ⟨some 16, _, _, _, _, _⟩) rfl 45 rfl _ alloc_f32 ?_)
        intro w' hr hg hz
        go_wp2_with fail
        exact hK _ _ (by kernel_rfl) hr hg
      · intro g W hW hD
        have hE0 : Own w W [rowE (g 14) 45 (c8 z2144), rowE (g 15) 45 (c8 z2144), rowE (g 16) 45 (c8 z2144), rowE w5.heap.size 45 (c8 G2), rowE g11 22 (c8 H), rowE g12 22 (c8 M), rowE w1.heap.size 51 (c8 S), rowE w.heap.size 22 (c8 x)] := hD
        obtain ⟨g14, hg14⟩ : ∃ g14, g14 = g 14 := ⟨_, rfl⟩
        obtain ⟨g15, hg15⟩ : ∃ g15, g15 = g 15 := ⟨_, rfl⟩
        obtain ⟨g16, hg16⟩ : ∃ g16, g16 = g 16 := ⟨_, rfl⟩
        rw [← hg14, ← hg15, ← hg16] at hE0
        simp only [putsS, List.map_cons, List.map_nil, ← hg14, ← hg15, ← hg16]
        clear hD hW hg14 hg15 hg16
        go_simp
        clear hSE
        refine wpMix_loudW _ rfl rfl ?_
        go_wp2_with (refine wp_storeAgg rfl 45 (.tmp 14) (.tmp 63) rfl g14 0 45 (c8 z2144) (c8 G) rfl rfl (hE0.row 0 rfl) IG.out FG.out (one8 _) ?_)
        intro we1 hr hg hz
        clear hz
        rw [splice_all EG.out] at hr
        have hE1 := hE0.setRow 0 rfl hr hg
        clear hr hg hE0
        go_wp2_with fail
        refine wpMix_next' (fun _ => hE1.tail.tail.tail) ?_
        refine wpMix_loudW _ rfl rfl ?_
        go_wp2_with (refine wp_storeAgg rfl 45 (.tmp 15) (.tmp 66) rfl g15 0 45 (c8 z2144) (c8 E) rfl rfl (hE1.row 1 rfl) IE.out FE.out (one8 _) ?_)
        intro we2 hr hg hz
        clear hz
        rw [splice_all EE.out] at hr
        have hE2 := hE1.setRow 1 rfl hr hg
        clear hr hg hE1
        go_wp2_with fail
        refine wpMix_next' (fun _ => hE2.tail.tail.tail) ?_
        refine wpMix_loudW _ rfl rfl ?_
        go_wp2_with (refine wp_storeAgg rfl 45 (.tmp 16) (.tmp 70) rfl g16 0 45 (c8 z2144) (c8 T) rfl rfl (hE2.row 2 rfl) IT.out FT.out (one8 _) ?_)
        intro we3 hr hg hz
        clear hz
        rw [splice_all ET.out] at hr
        have hE3 := hE2.setRow 2 rfl hr hg
        clear hr hg hE2
        go_wp2_with fail
        refine wpMix_next' (fun _ => hE3.tail.tail.tail) ?_
        unfold wpMix
        by_cases hTE : T = E
        · rw [decide_eq_true hTE] at eT
          have HNO := Lib.hid (L2.out hTE)
          clear hTE
          by_cases hMH : M = H
          · rw [decide_eq_true hMH] at eM
            by_cases hGG : G2 = G
            · rw [decide_eq_true hGG] at eG
              clear hMH hGG HNO
              go_wp2_with (first | (refine wp_load rfl 45 (.tmp 16) rfl Try.underlying45 rfl ⟨g16, 0, none⟩ rfl (c8 T) IT.out (row_all (hE3.row 2 rfl)) ?_) | (refine wp_load rfl 45 (.tmp 15) rfl Try.underlying45 rfl ⟨g15, 0, none⟩ rfl (c8 E) IE.out (row_all (hE3.row 1 rfl)) ?_) | (refine wp_load rfl 22 (.tmp 12) rfl Try.underlying22 rfl ⟨g12, 0, none⟩ rfl (c8 M) IM.out (row_all (hE3.row 5 rfl)) ?_) | (refine wp_load rfl 22 (.tmp 11) rfl Try.underlying22 rfl ⟨g11, 0, none⟩ rfl (c8 H) IH.out (row_all (hE3.row 4 rfl)) ?_) | (refine wp_load rfl 45 (.tmp 13) rfl Try.underlying45 rfl ⟨w5.heap.size, 0, none⟩ rfl (c8 G2) IG2.out (row_all (hE3.row 3 rfl)) ?_) | (refine wp_load rfl 45 (.tmp 14) rfl Try.underlying45 rfl ⟨g14, 0, none⟩ rfl (c8 G) IG.out (row_all (hE3.row 0 rfl)) ?_))
              go_ret
              exact ⟨rfl, hE3.grown⟩
            · rw [decide_eq_false hGG] at eG
              have HEX := Lib.hid (HNO.out (fun h => hGG h.2))
              clear hMH hGG HNO
              go_wp2_with (first | (refine wp_load rfl 45 (.tmp 16) rfl Try.underlying45 rfl ⟨g16, 0, none⟩ rfl (c8 T) IT.out (row_all (hE3.row 2 rfl)) ?_) | (refine wp_load rfl 45 (.tmp 15) rfl Try.underlying45 rfl ⟨g15, 0, none⟩ rfl (c8 E) IE.out (row_all (hE3.row 1 rfl)) ?_) | (refine wp_load rfl 22 (.tmp 12) rfl Try.underlying22 rfl ⟨g12, 0, none⟩ rfl (c8 M) IM.out (row_all (hE3.row 5 rfl)) ?_) | (refine wp_load rfl 22 (.tmp 11) rfl Try.underlying22 rfl ⟨g11, 0, none⟩ rfl (c8 H) IH.out (row_all (hE3.row 4 rfl)) ?_) | (refine wp_load rfl 45 (.tmp 13) rfl Try.underlying45 rfl ⟨w5.heap.size, 0, none⟩ rfl (c8 G2) IG2.out (row_all (hE3.row 3 rfl)) ?_) | (refine wp_load rfl 45 (.tmp 14) rfl Try.underlying45 rfl ⟨g14, 0, none⟩ rfl (c8 G) IG.out (row_all (hE3.row 0 rfl)) ?_))
              clear eM eG eT
              have hG := hE3.drew
              clear hE3
              refine wp_region_dag (w0 := w) (L0 := [rowE g14 45 (c8 G), rowE g15 45 (c8 E), rowE g16 45 (c8 T), rowE w5.heap.size 45 (c8 G2), rowE g11 22 (c8 H), rowE g12 22 (c8 M), rowE w1.heap.size 51 (c8 S), rowE w.heap.size 22 (c8 x)]) (fun _ => true) [0, 2] [(1, 88, .val (.agg (c8 DM).toArray)), (3, 90, .val (.agg (c8 DH).toArray)), (4, 17, .new 31 (c8 z67)), (5, 18, .new 31 (c8 z67))] [6, 7] (by kernel_rfl) (by simp) (by simp) hG (by kernel_rfl) ?_
              simp only [List.map_cons, List.map_nil]
              refine wpMix_pureW (.agg (c8 M).toArray) rfl rfl (fun W hW => run_load_op 22 (.tmp 12) rfl Try.underlying22 rfl ⟨g12, 0, none⟩ rfl _ IM.out (row_all (hW.row 5 rfl))) ?_
              refine wpMix_pureW (.agg (c8 H).toArray) rfl rfl (fun W hW => run_load_op 22 (.tmp 11) rfl Try.underlying22 rfl ⟨g11, 0, none⟩ rfl _ IH.out (row_all (hW.row 4 rfl))) ?_
              change DagGoal _ _ _ _ _ _ _ _ _ _ _
              refine ⟨⟨?_, ?_, ?_, ?_, trivial⟩, ?_⟩
              · refine ⟨_, rfl, rfl, fun f W K hS hK => ?_⟩
                simp only [putsL]
                go_wp2_with fail
                refine (c9 _).mono ?_
                rintro e w' ⟨rfl, hg⟩
                go_wp2_with fail
                exact hK _ _ (by kernel_rfl) hg
              · refine ⟨_, rfl, rfl, fun f W K hS hK => ?_⟩
                simp only [putsL]
                go_wp2_with fail
                refine (cA _).mono ?_
                rintro e w' ⟨rfl, hg⟩
                go_wp2_with fail
                exact hK _ _ (by kernel_rfl) hg
              · refine ⟨_, rfl, rfl, fun f W K hS hK => ?_⟩
                simp only [putsL]
                go_wp2_with (refine wp_alloc (o := ⟨some 17, _, _, _, _, _⟩) rfl 31 rfl _ alloc_67 ?_)
                intro w' hr hg hz
                go_wp2_with fail
                exact hK _ _ (by kernel_rfl) hr hg
              · refine ⟨_, rfl, rfl, fun f W K hS hK => ?_⟩
                simp only [putsL]
                go_wp2_with (refine wp_alloc (o := ⟨some 18, _, _, _, _, _⟩) rfl 31 rfl _ alloc_67 ?_)
                intro w' hr hg hz
                go_wp2_with fail
                exact hK _ _ (by kernel_rfl) hr hg
              · intro g W hW hD
                have hH0 : Own w W [rowE (g 17) 31 (c8 z67), rowE (g 18) 31 (c8 z67), rowE g14 45 (c8 G), rowE g15 45 (c8 E), rowE g16 45 (c8 T), rowE w5.heap.size 45 (c8 G2), rowE g11 22 (c8 H), rowE g12 22 (c8 M), rowE w1.heap.size 51 (c8 S), rowE w.heap.size 22 (c8 x)] := hD
                obtain ⟨g17, hg17⟩ : ∃ g17, g17 = g 17 := ⟨_, rfl⟩
                obtain ⟨g18, hg18⟩ : ∃ g18, g18 = g 18 := ⟨_, rfl⟩
                rw [← hg17, ← hg18] at hH0
                simp only [putsS, List.map_cons, List.map_nil, ← hg17, ← hg18]
                clear hD hW hg17 hg18
                go_simp
                clear hG
                refine wpMix_loudW _ rfl rfl ?_
                go_wp2_with (refine wp_storeAgg rfl 31 (.tmp 17) (.tmp 88) rfl g17 0 31 (c8 z67) (c8 DM) rfl rfl (hH0.row 0 rfl) IDM.out FDM.out (one8 _) ?_)
                intro wh1 hr hg hz
                clear hz
                rw [splice_all EDM.out] at hr
                have hH1 := hH0.setRow 0 rfl hr hg
                clear hr hg hH0
                go_wp2_with fail
                refine wpMix_next' (fun _ => hH1.tail.tail) ?_
                refine wpMix_loudW _ rfl rfl ?_
                go_wp2_with (refine wp_storeAgg rfl 31 (.tmp 18) (.tmp 90) rfl g18 0 31 (c8 z67) (c8 DH) rfl rfl (hH1.row 1 rfl) IDH.out FDH.out (one8 _) ?_)
                intro wh2 hr hg hz
                clear hz
                rw [splice_all EDH.out] at hr
                have hH2 := hH1.setRow 1 rfl hr hg
                clear hr hg hH1
                go_wp2_with fail
                refine wpMix_next' (fun _ => hH2.tail.tail) ?_
                unfold wpMix
                go_wp2
                go_loopw [91] (fun iv wr => ∃ k : Nat, k ≤ 67 ∧ iv = .int .i64 (k : Int) ∧ Hid (∀ j, j < k → R j = false) ∧ Own w wr [rowE g17 31 (c8 DM), rowE g18 31 (c8 DH), rowE g14 45 (c8 G), rowE g15 45 (c8 E), rowE g16 45 (c8 T), rowE w5.heap.size 45 (c8 G2), rowE g11 22 (c8 H), rowE g12 22 (c8 M), rowE w1.heap.size 51 (c8 S), rowE w.heap.size 22 (c8 x)]) (fun iv _ => 67 - (intOf iv).toNat)
                case atStart => exact ⟨0, by omega, rfl, Lib.hid (fun j hj => by omega), hH2⟩
                case round =>
                  clear hH2
                  obtain ⟨k, hk, rfl, HN, hS⟩ := hrel
                  by_cases hlt : k < 67
                  · have p1 : (k : Int) < 67 := by omega
                    obtain ⟨hf, hfc⟩ := HF.out k hlt
                    obtain ⟨hg, hgc⟩ := HGG.out k hlt
                    have hcall := fun W => cB k W hlt
                    obtain ⟨X, hX⟩ : ∃ X, X = chunk32 G2 k := ⟨_, rfl⟩
                    obtain ⟨Y, hY⟩ : ∃ Y, Y = chunk32 G k := ⟨_, rfl⟩
                    have HRX := Lib.hid (show ∀ (W : World) (b : Nat) (t : TypeId), Row W b t (c8 G2) → ∀ j v, (c8 X)[j]? = some v → W.cell? ((⟨b, k * 32, none⟩ : Addr).add j) = some v by intro W b t h; rw [hX]; exact row_chunk h k)
                    have HRY := Lib.hid (show ∀ (W : World) (b : Nat) (t : TypeId), Row W b t (c8 G) → ∀ j v, (c8 Y)[j]? = some v → W.cell? ((⟨b, k * 32, none⟩ : Addr).add j) = some v by intro W b t h; rw [hY]; exact row_chunk h k)
                    have IX2 := Lib.hid (info_a32 X (by rw [hX]; exact chunk32_length _ _ 67 HG2.out hlt))
                    have IY2 := Lib.hid (info_a32 Y (by rw [hY]; exact chunk32_length _ _ 67 HG.out hlt))
                    obtain ⟨fk, hfk⟩ : ∃ fk, fk = fd k := ⟨_, rfl⟩
                    obtain ⟨gk, hgk⟩ : ∃ gk, gk = gd k := ⟨_, rfl⟩
                    rw [← hX, ← hY, ← hfk, ← hgk] at hcall
                    rw [← hfk] at hf hfc
                    rw [← hgk] at hg hgc
                    have m0 : (0 : Int) ≤ (fk : Int) := by omega
                    have m1 : (fk : Int) < 16 := by omega
                    have m2 : (0 : Int) ≤ (gk : Int) := by omega
                    have m3 : (gk : Int) < 16 := by omega
                    have HFC := Lib.hid hfc
                    have HGC := Lib.hid hgc
                    have HK := Lib.hid (show k < 67 from hlt)
                    clear hX hY hfk hgk hf hfc hg hgc hlt hk
                    go_wp2
                    have hS1 := hS.drew
                    clear hS
                    refine wp_region_mixC (fun W => Own w W _) (fun _ => true) [(0, true), (1, true), (2, true), (3, true), (4, true), (5, true), (6, true), (7, true), (8, true), (9, true), (10, true), (11, true), (12, true), (13, true), (14, true), (15, true), (16, true), (17, false)] (by kernel_rfl) (by kernel_rfl) hS1 ?_
                    iterate 5 (refine wpMix_step rfl (fun K hK => ?_); go_simp; (try go_bits); with_reducible refine hK _ ?_; clear hK K)
                    refine wpMix_pureW (.agg (c8 X).toArray) rfl rfl (fun W hW => run_load_op 22 (.tmp 98) rfl Try.underlying22 rfl ⟨w5.heap.size, k * 32, none⟩ rfl _ IX2.out (HRX.out _ _ _ (hW.row 5 rfl))) ?_
                    iterate 2 (refine wpMix_step rfl (fun K hK => ?_); go_simp; (try go_bits); with_reducible refine hK _ ?_; clear hK K)
                    refine wpMix_pureW _ rfl rfl (fun W hW => run_load_cell 5 (.tmp 101) rfl Try.underlying5 rfl ⟨g17, k, none⟩ rfl _ (((hW.row 0 rfl).cell k).trans HFC.out)) ?_
                    iterate 3 (refine wpMix_step rfl (fun K hK => ?_); go_simp; (try go_bits); with_reducible refine hK _ ?_; clear hK K)
                    refine wpMix_pureW (.agg (c8 Y).toArray) rfl rfl (fun W hW => run_load_op 22 (.tmp 105) rfl Try.underlying22 rfl ⟨g14, k * 32, none⟩ rfl _ IY2.out (HRY.out _ _ _ (hW.row 2 rfl))) ?_
                    iterate 2 (refine wpMix_step rfl (fun K hK => ?_); go_simp; (try go_bits); with_reducible refine hK _ ?_; clear hK K)
                    refine wpMix_pureW _ rfl rfl (fun W hW => run_load_cell 5 (.tmp 108) rfl Try.underlying5 rfl ⟨g18, k, none⟩ rfl _ (((hW.row 1 rfl).cell k).trans HGC.out)) ?_
                    iterate 1 (refine wpMix_step rfl (fun K hK => ?_); go_simp; (try go_bits); with_reducible refine hK _ ?_; clear hK K)
                    obtain ⟨b, hb⟩ : ∃ b, b = R k := ⟨_, rfl⟩
                    rw [← hb] at hcall
                    have HBK := Lib.hid hb
                    clear hb
                    refine wpMix_loudW _ rfl rfl ?_
                    go_wp2_with fail
                    refine (hcall _).mono ?_
                    rintro e w9 ⟨rfl, hg⟩
                    have hS2 := hS1.call hg
                    clear hg hS1
                    go_wp2_with fail
                    refine wpMix_next' (fun _ => hS2) ?_
                    unfold wpMix
                    clear hcall
                    cases b
                    · go_wp2
                      go_roundw
                      case rel => exact ⟨k + 1, by have := HK.out; omega, by go_num, Lib.hid (fun a ha => by rcases Nat.lt_or_ge a k with h | h; exact HN.out a h; rw [show a = k by omega]; exact HBK.out.symm), hS2⟩
                      case measure => have := HK.out; simp [intOf] <;> omega
                    · go_wp2
                      go_ret
                      exact ⟨rfl, hS2.grown⟩
                  · obtain rfl : k = 67 := by omega
                    exfalso
                    obtain ⟨j, hj, hjr⟩ := HEX.out
                    have := HN.out j hj
                    rw [this] at hjr
                    cases hjr
          · rw [decide_eq_false hMH] at eM
            have HEX := Lib.hid (HNO.out (fun h => hMH h.1))
            clear hMH HNO
            go_wp2_with (first | (refine wp_load rfl 45 (.tmp 16) rfl Try.underlying45 rfl ⟨g16, 0, none⟩ rfl (c8 T) IT.out (row_all (hE3.row 2 rfl)) ?_) | (refine wp_load rfl 45 (.tmp 15) rfl Try.underlying45 rfl ⟨g15, 0, none⟩ rfl (c8 E) IE.out (row_all (hE3.row 1 rfl)) ?_) | (refine wp_load rfl 22 (.tmp 12) rfl Try.underlying22 rfl ⟨g12, 0, none⟩ rfl (c8 M) IM.out (row_all (hE3.row 5 rfl)) ?_) | (refine wp_load rfl 22 (.tmp 11) rfl Try.underlying22 rfl ⟨g11, 0, none⟩ rfl (c8 H) IH.out (row_all (hE3.row 4 rfl)) ?_))
            clear eM eG eT
            have hG := hE3.drew
            clear hE3
            refine wp_region_dag (w0 := w) (L0 := [rowE g14 45 (c8 G), rowE g15 45 (c8 E), rowE g16 45 (c8 T), rowE w5.heap.size 45 (c8 G2), rowE g11 22 (c8 H), rowE g12 22 (c8 M), rowE w1.heap.size 51 (c8 S), rowE w.heap.size 22 (c8 x)]) (fun _ => true) [0, 2] [(1, 88, .val (.agg (c8 DM).toArray)), (3, 90, .val (.agg (c8 DH).toArray)), (4, 17, .new 31 (c8 z67)), (5, 18, .new 31 (c8 z67))] [6, 7] (by kernel_rfl) (by simp) (by simp) hG (by kernel_rfl) ?_
            simp only [List.map_cons, List.map_nil]
            refine wpMix_pureW (.agg (c8 M).toArray) rfl rfl (fun W hW => run_load_op 22 (.tmp 12) rfl Try.underlying22 rfl ⟨g12, 0, none⟩ rfl _ IM.out (row_all (hW.row 5 rfl))) ?_
            refine wpMix_pureW (.agg (c8 H).toArray) rfl rfl (fun W hW => run_load_op 22 (.tmp 11) rfl Try.underlying22 rfl ⟨g11, 0, none⟩ rfl _ IH.out (row_all (hW.row 4 rfl))) ?_
            change DagGoal _ _ _ _ _ _ _ _ _ _ _
            refine ⟨⟨?_, ?_, ?_, ?_, trivial⟩, ?_⟩
            · refine ⟨_, rfl, rfl, fun f W K hS hK => ?_⟩
              simp only [putsL]
              go_wp2_with fail
              refine (c9 _).mono ?_
              rintro e w' ⟨rfl, hg⟩
              go_wp2_with fail
              exact hK _ _ (by kernel_rfl) hg
            · refine ⟨_, rfl, rfl, fun f W K hS hK => ?_⟩
              simp only [putsL]
              go_wp2_with fail
              refine (cA _).mono ?_
              rintro e w' ⟨rfl, hg⟩
              go_wp2_with fail
              exact hK _ _ (by kernel_rfl) hg
            · refine ⟨_, rfl, rfl, fun f W K hS hK => ?_⟩
              simp only [putsL]
              go_wp2_with (refine wp_alloc (o := ⟨some 17, _, _, _, _, _⟩) rfl 31 rfl _ alloc_67 ?_)
              intro w' hr hg hz
              go_wp2_with fail
              exact hK _ _ (by kernel_rfl) hr hg
            · refine ⟨_, rfl, rfl, fun f W K hS hK => ?_⟩
              simp only [putsL]
              go_wp2_with (refine wp_alloc (o := ⟨some 18, _, _, _, _, _⟩) rfl 31 rfl _ alloc_67 ?_)
              intro w' hr hg hz
              go_wp2_with fail
              exact hK _ _ (by kernel_rfl) hr hg
            · intro g W hW hD
              have hH0 : Own w W [rowE (g 17) 31 (c8 z67), rowE (g 18) 31 (c8 z67), rowE g14 45 (c8 G), rowE g15 45 (c8 E), rowE g16 45 (c8 T), rowE w5.heap.size 45 (c8 G2), rowE g11 22 (c8 H), rowE g12 22 (c8 M), rowE w1.heap.size 51 (c8 S), rowE w.heap.size 22 (c8 x)] := hD
              obtain ⟨g17, hg17⟩ : ∃ g17, g17 = g 17 := ⟨_, rfl⟩
              obtain ⟨g18, hg18⟩ : ∃ g18, g18 = g 18 := ⟨_, rfl⟩
              rw [← hg17, ← hg18] at hH0
              simp only [putsS, List.map_cons, List.map_nil, ← hg17, ← hg18]
              clear hD hW hg17 hg18
              go_simp
              clear hG
              refine wpMix_loudW _ rfl rfl ?_
              go_wp2_with (refine wp_storeAgg rfl 31 (.tmp 17) (.tmp 88) rfl g17 0 31 (c8 z67) (c8 DM) rfl rfl (hH0.row 0 rfl) IDM.out FDM.out (one8 _) ?_)
              intro wh1 hr hg hz
              clear hz
              rw [splice_all EDM.out] at hr
              have hH1 := hH0.setRow 0 rfl hr hg
              clear hr hg hH0
              go_wp2_with fail
              refine wpMix_next' (fun _ => hH1.tail.tail) ?_
              refine wpMix_loudW _ rfl rfl ?_
              go_wp2_with (refine wp_storeAgg rfl 31 (.tmp 18) (.tmp 90) rfl g18 0 31 (c8 z67) (c8 DH) rfl rfl (hH1.row 1 rfl) IDH.out FDH.out (one8 _) ?_)
              intro wh2 hr hg hz
              clear hz
              rw [splice_all EDH.out] at hr
              have hH2 := hH1.setRow 1 rfl hr hg
              clear hr hg hH1
              go_wp2_with fail
              refine wpMix_next' (fun _ => hH2.tail.tail) ?_
              unfold wpMix
              go_wp2
              go_loopw [91] (fun iv wr => ∃ k : Nat, k ≤ 67 ∧ iv = .int .i64 (k : Int) ∧ Hid (∀ j, j < k → R j = false) ∧ Own w wr [rowE g17 31 (c8 DM), rowE g18 31 (c8 DH), rowE g14 45 (c8 G), rowE g15 45 (c8 E), rowE g16 45 (c8 T), rowE w5.heap.size 45 (c8 G2), rowE g11 22 (c8 H), rowE g12 22 (c8 M), rowE w1.heap.size 51 (c8 S), rowE w.heap.size 22 (c8 x)]) (fun iv _ => 67 - (intOf iv).toNat)
              case atStart => exact ⟨0, by omega, rfl, Lib.hid (fun j hj => by omega), hH2⟩
              case round =>
                clear hH2
                obtain ⟨k, hk, rfl, HN, hS⟩ := hrel
                by_cases hlt : k < 67
                · have p1 : (k : Int) < 67 := by omega
                  obtain ⟨hf, hfc⟩ := HF.out k hlt
                  obtain ⟨hg, hgc⟩ := HGG.out k hlt
                  have hcall := fun W => cB k W hlt
                  obtain ⟨X, hX⟩ : ∃ X, X = chunk32 G2 k := ⟨_, rfl⟩
                  obtain ⟨Y, hY⟩ : ∃ Y, Y = chunk32 G k := ⟨_, rfl⟩
                  have HRX := Lib.hid (show ∀ (W : World) (b : Nat) (t : TypeId), Row W b t (c8 G2) → ∀ j v, (c8 X)[j]? = some v → W.cell? ((⟨b, k * 32, none⟩ : Addr).add j) = some v by intro W b t h; rw [hX]; exact row_chunk h k)
                  have HRY := Lib.hid (show ∀ (W : World) (b : Nat) (t : TypeId), Row W b t (c8 G) → ∀ j v, (c8 Y)[j]? = some v → W.cell? ((⟨b, k * 32, none⟩ : Addr).add j) = some v by intro W b t h; rw [hY]; exact row_chunk h k)
                  have IX2 := Lib.hid (info_a32 X (by rw [hX]; exact chunk32_length _ _ 67 HG2.out hlt))
                  have IY2 := Lib.hid (info_a32 Y (by rw [hY]; exact chunk32_length _ _ 67 HG.out hlt))
                  obtain ⟨fk, hfk⟩ : ∃ fk, fk = fd k := ⟨_, rfl⟩
                  obtain ⟨gk, hgk⟩ : ∃ gk, gk = gd k := ⟨_, rfl⟩
                  rw [← hX, ← hY, ← hfk, ← hgk] at hcall
                  rw [← hfk] at hf hfc
                  rw [← hgk] at hg hgc
                  have m0 : (0 : Int) ≤ (fk : Int) := by omega
                  have m1 : (fk : Int) < 16 := by omega
                  have m2 : (0 : Int) ≤ (gk : Int) := by omega
                  have m3 : (gk : Int) < 16 := by omega
                  have HFC := Lib.hid hfc
                  have HGC := Lib.hid hgc
                  have HK := Lib.hid (show k < 67 from hlt)
                  clear hX hY hfk hgk hf hfc hg hgc hlt hk
                  go_wp2
                  have hS1 := hS.drew
                  clear hS
                  refine wp_region_mixC (fun W => Own w W _) (fun _ => true) [(0, true), (1, true), (2, true), (3, true), (4, true), (5, true), (6, true), (7, true), (8, true), (9, true), (10, true), (11, true), (12, true), (13, true), (14, true), (15, true), (16, true), (17, false)] (by kernel_rfl) (by kernel_rfl) hS1 ?_
                  iterate 5 (refine wpMix_step rfl (fun K hK => ?_); go_simp; (try go_bits); with_reducible refine hK _ ?_; clear hK K)
                  refine wpMix_pureW (.agg (c8 X).toArray) rfl rfl (fun W hW => run_load_op 22 (.tmp 98) rfl Try.underlying22 rfl ⟨w5.heap.size, k * 32, none⟩ rfl _ IX2.out (HRX.out _ _ _ (hW.row 5 rfl))) ?_
                  iterate 2 (refine wpMix_step rfl (fun K hK => ?_); go_simp; (try go_bits); with_reducible refine hK _ ?_; clear hK K)
                  refine wpMix_pureW _ rfl rfl (fun W hW => run_load_cell 5 (.tmp 101) rfl Try.underlying5 rfl ⟨g17, k, none⟩ rfl _ (((hW.row 0 rfl).cell k).trans HFC.out)) ?_
                  iterate 3 (refine wpMix_step rfl (fun K hK => ?_); go_simp; (try go_bits); with_reducible refine hK _ ?_; clear hK K)
                  refine wpMix_pureW (.agg (c8 Y).toArray) rfl rfl (fun W hW => run_load_op 22 (.tmp 105) rfl Try.underlying22 rfl ⟨g14, k * 32, none⟩ rfl _ IY2.out (HRY.out _ _ _ (hW.row 2 rfl))) ?_
                  iterate 2 (refine wpMix_step rfl (fun K hK => ?_); go_simp; (try go_bits); with_reducible refine hK _ ?_; clear hK K)
                  refine wpMix_pureW _ rfl rfl (fun W hW => run_load_cell 5 (.tmp 108) rfl Try.underlying5 rfl ⟨g18, k, none⟩ rfl _ (((hW.row 1 rfl).cell k).trans HGC.out)) ?_
                  iterate 1 (refine wpMix_step rfl (fun K hK => ?_); go_simp; (try go_bits); with_reducible refine hK _ ?_; clear hK K)
                  obtain ⟨b, hb⟩ : ∃ b, b = R k := ⟨_, rfl⟩
                  rw [← hb] at hcall
                  have HBK := Lib.hid hb
                  clear hb
                  refine wpMix_loudW _ rfl rfl ?_
                  go_wp2_with fail
                  refine (hcall _).mono ?_
                  rintro e w9 ⟨rfl, hg⟩
                  have hS2 := hS1.call hg
                  clear hg hS1
                  go_wp2_with fail
                  refine wpMix_next' (fun _ => hS2) ?_
                  unfold wpMix
                  clear hcall
                  cases b
                  · go_wp2
                    go_roundw
                    case rel => exact ⟨k + 1, by have := HK.out; omega, by go_num, Lib.hid (fun a ha => by rcases Nat.lt_or_ge a k with h | h; exact HN.out a h; rw [show a = k by omega]; exact HBK.out.symm), hS2⟩
                    case measure => have := HK.out; simp [intOf] <;> omega
                  · go_wp2
                    go_ret
                    exact ⟨rfl, hS2.grown⟩
                · obtain rfl : k = 67 := by omega
                  exfalso
                  obtain ⟨j, hj, hjr⟩ := HEX.out
                  have := HN.out j hj
                  rw [this] at hjr
                  cases hjr
        · rw [decide_eq_false hTE] at eT
          clear hTE L2
          go_wp2_with (first | (refine wp_load rfl 45 (.tmp 16) rfl Try.underlying45 rfl ⟨g16, 0, none⟩ rfl (c8 T) IT.out (row_all (hE3.row 2 rfl)) ?_) | (refine wp_load rfl 45 (.tmp 15) rfl Try.underlying45 rfl ⟨g15, 0, none⟩ rfl (c8 E) IE.out (row_all (hE3.row 1 rfl)) ?_))
          have hF := hE3.drew
          clear hE3
          refine wp_region_mixC (fun W => Own w W _) (fun _ => true) [(0, true), (2, true), (1, false), (3, false), (4, true), (5, false)] (by kernel_rfl) (by kernel_rfl) hF ?_
          refine wpMix_pureW (.agg (c8 T).toArray) rfl rfl (fun W hW => run_load_op 45 (.tmp 16) rfl Try.underlying45 rfl ⟨g16, 0, none⟩ rfl _ IT.out (row_all (hW.row 2 rfl))) ?_
          refine wpMix_pureW (.agg (c8 E).toArray) rfl rfl (fun W hW => run_load_op 45 (.tmp 15) rfl Try.underlying45 rfl ⟨g15, 0, none⟩ rfl _ IE.out (row_all (hW.row 1 rfl))) ?_
          refine wpMix_loudW _ rfl rfl ?_
          go_wp2_with fail
          refine (c7 _).mono ?_
          rintro e wF1 ⟨rfl, hg⟩
          have hF1 := hF.call hg
          clear hg hF
          go_wp2_with fail
          refine wpMix_next' (fun _ => hF1) ?_
          refine wpMix_loudW _ rfl rfl ?_
          go_wp2_with fail
          refine (c8' _).mono ?_
          rintro e wF2 ⟨rfl, hg⟩
          have hF2 := hF1.call hg
          clear hg hF1
          go_wp2_with fail
          refine wpMix_next' (fun _ => hF2) ?_
          iterate 1 (refine wpMix_step rfl (fun K hK => ?_); go_simp; (try go_bits); with_reducible refine hK _ ?_; clear hK K)
          refine wpMix_loudW _ rfl rfl ?_
          go_wp2_with fail
          refine wpMix_next' (fun _ => hF2) ?_
          unfold wpMix
          go_wp2
          go_ret
          exact ⟨rfl, hF2.grown⟩
    · rw [decide_eq_false hUV] at eU
      have HL := Lib.hid (L1.out hUV)
      clear hUV L1 L2
      iterate 1 (refine wpMix_step rfl (fun K hK => ?_); go_simp; (try go_bits); with_reducible refine hK _ ?_; clear hK K)
      unfold wpMix
      by_cases hMH : M = H
      · rw [decide_eq_true hMH] at eM
        have tz : decide (tn = 0) = false := by have := HL.out hMH; simpa using this
        have tz' : ¬ tn = 0 := HL.out hMH
        have tz3 : (tn != 0) = true := by simpa using tz'
        clear hMH HL
        go_wp2_with (first | (refine wp_load rfl 22 (.tmp 12) rfl Try.underlying22 rfl ⟨g12, 0, none⟩ rfl (c8 M) IM.out (row_all (hSD.row 2 rfl)) ?_) | (refine wp_load rfl 22 (.tmp 11) rfl Try.underlying22 rfl ⟨g11, 0, none⟩ rfl (c8 H) IH.out (row_all (hSD.row 1 rfl)) ?_))
        go_ret
        exact ⟨rfl, hSD.grown⟩
      · rw [decide_eq_false hMH] at eM
        clear hMH HL
        go_wp2_with (first | (refine wp_load rfl 22 (.tmp 12) rfl Try.underlying22 rfl ⟨g12, 0, none⟩ rfl (c8 M) IM.out (row_all (hSD.row 2 rfl)) ?_) | (refine wp_load rfl 22 (.tmp 11) rfl Try.underlying22 rfl ⟨g11, 0, none⟩ rfl (c8 H) IH.out (row_all (hSD.row 1 rfl)) ?_))
        go_ret
        exact ⟨rfl, hSD.grown⟩
theorem walk_ChainForges (w : World) (x : List UInt8) (hx : x.length = 32) (key : Int) (wk : (Lit.int .u32 key).wf = true) (S : List UInt8) (hs : S.length = 64) (at_ : Int) (wa : (Lit.int .i64 at_).wf = true) (tn : Int) (wt : (Lit.int .u8 tn).wf = true) :
    Calls Try.prog 8 #[.agg (c8 x).toArray, .int .u32 key, .agg (c8 S).toArray, .int .i64 at_, .int .u8 tn] w fun e w' => e = .returned (.bool true) ∧ w.grownBy w' none := by
  obtain ⟨k, rfl, hk⟩ := of_u32 wk
  obtain ⟨t, rfl⟩ := of_u8 wt
  obtain ⟨a0, a1⟩ := of_i64 wa
  obtain ⟨r, hr⟩ : ∃ r : Nat, at_ % 18446744073709551616 % 67 = (r : Int) := ⟨(at_ % 18446744073709551616 % 67).toNat, by omega⟩
  have hr67 : r < 67 := by omega
  have hatA : (IntKind.u64.wrap at_).tmod 67 = (r : Int) := by
    rw [← hr, show IntKind.u64.wrap at_ = at_ % 18446744073709551616 from rfl, Int.tmod_eq_emod_of_nonneg (by omega)]
  have hH : (chunk32 S 0).length = 32 := chunk32_length S 0 2 (by omega) (by omega)
  have hM : (chunk32 S 1).length = 32 := chunk32_length S 1 2 (by omega) (by omega)
  have hG := signL_length x k (chunk32 S 0)
  have hpos : r * 32 + r % 32 < (signL x k (chunk32 S 0)).length := by rw [hG]; omega
  have hset := c8_set (signL x k (chunk32 S 0)) (r * 32 + r % 32) ((signL x k (chunk32 S 0)).getD (r * 32 + r % 32) 0 ^^^ t)
  obtain ⟨G2, hG2⟩ : ∃ G2, G2 = (signL x k (chunk32 S 0)).set (r * 32 + r % 32) ((signL x k (chunk32 S 0)).getD (r * 32 + r % 32) 0 ^^^ t) := ⟨_, rfl⟩
  rw [← hG2] at hset
  have hG2l : G2.length = 2144 := by rw [hG2, List.length_set, hG]
  have hU : (recoverL k (chunk32 S 1) G2).length = 32 := sha_length _
  have hV : (publicL x k).length = 32 := sha_length _
  have hE := endsL_length x k
  have hT := topsL_length k (chunk32 S 1) G2 hG2l
  refine forges_core w x S (chunk32 S 0) (chunk32 S 1) (signL x k (chunk32 S 0)) G2 (endsL x k) (topsL k (chunk32 S 1) G2) (recoverL k (chunk32 S 1) G2) (publicL x k) (digitsL (chunk32 S 1)) (digitsL (chunk32 S 0)) k r (r % 32) at_ (n8 t)
    (n8 ((signL x k (chunk32 S 0)).getD (r * 32 + r % 32) 0)) (n8 ((signL x k (chunk32 S 0)).getD (r * 32 + r % 32) 0 ^^^ t))
    (Lib.hid hx) (Lib.hid hs) (Lib.hid hH) (Lib.hid hM) (Lib.hid hG) (Lib.hid hG2l) (Lib.hid hE) (Lib.hid hT) (Lib.hid hU) (Lib.hid hV) (Lib.hid (digitsL_length _)) (Lib.hid (digitsL_length _))
    (Lib.hid rfl) (Lib.hid rfl) (Lib.hid hset) (Lib.hid (c8_get _ _ hpos)) (w_xor8 _ _) (Lib.hid hr67) (Lib.hid (by omega)) a0 a1 hatA (by unfold wrap64; omega) (by omega) (by omega) (by omega) (by omega) (by omega)
    (n8_lo _) (by have := n8_hi ((signL x k (chunk32 S 0)).getD (r * 32 + r % 32) 0); omega) (n8_lo _) (by have := n8_hi t; omega) (n8_lo _) (by have := n8_hi ((signL x k (chunk32 S 0)).getD (r * 32 + r % 32) 0 ^^^ t); omega)
    (fun W => rsign_any x k _ W hx hH hk) (fun W => to_any G2 W hG2l) (fun W => recover_any k _ G2 W hM hG2l hk) (fun W => public_any x k W hx hk) (fun W => rends_any x k W hx hk) (fun W => rtops_any k _ G2 W hM hG2l hk)
    (fun W => rpress_any _ W hT) (fun W => rpress_any _ W hE) (fun W => rdigits_any _ W hM) (fun W => rdigits_any _ W hH)
    (fun c => meetsL k (u8c c) (chunk32 G2 c) (digN67 (chunk32 S 1) c) (sigL x k (chunk32 S 0) c) (digN67 (chunk32 S 0) c)) (digN67 (chunk32 S 1)) (digN67 (chunk32 S 0)) (Lib.hid (fun c hc => dig_cells' _ c hc)) (Lib.hid (fun c hc => dig_cells' _ c hc))
    (fun c W hc => ?_) (fun W => eq_dg W _ _ hU hV) (fun W => eq_a32 W _ _ hU hV) (fun W => eq_a32 W _ _ hM hH) (fun W => eq_f32 W _ _ hT hE) (fun W => eq_f32 W _ _ hG2l hG) (Lib.hid (fun hne hmh h0 => hne ?_)) (Lib.hid (fun hte hno => ?_))
  · have hch : chunk32 (signL x k (chunk32 S 0)) c = sigL x k (chunk32 S 0) c := flatN_chunk _ 67 c (fun c _ => sigL_length _ _ _ c) hc
    rw [hch]
    have := meets_any k (u8c c) (chunk32 G2 c) (sigL x k (chunk32 S 0) c) (digN67 (chunk32 S 1) c) (digN67 (chunk32 S 0) c) W (chunk32_length _ _ 67 hG2l hc) (sigL_length _ _ _ c) hk (by have := digN67_lt (chunk32 S 1) c; omega) (by have := digN67_lt (chunk32 S 0) c; omega)
    rw [u8c_n8 c (by omega)] at this
    exact this
  · have ht : t = 0 := by
      have : n8 t = n8 0 := by rw [h0]; rfl
      exact n8_inj this
    have hG2' : G2 = signL x k (chunk32 S 0) := by
      rw [hG2, ht, UInt8.xor_zero]
      apply List.ext_getElem?
      intro j
      by_cases hj : r * 32 + r % 32 = j
      · subst hj; rw [List.getElem?_set_self hpos, List.getD_eq_getElem?_getD, List.getElem?_eq_getElem hpos]; rfl
      · rw [List.getElem?_set_ne hj]
    rw [hmh, hG2', recover_own]
  · exact forged x k (chunk32 S 0) (chunk32 S 1) G2 hH hM hG2l hte hno
end Go.Proofs.Ytfaekebglijebaa
