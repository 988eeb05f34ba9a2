/- The walk of the law ChainCrosses. -/
import Derived.Test.YtfaekebglijebaaAwake4
import Derived.Test.YtfaekebglijebaaRDigits
import Derived.Test.YtfaekebglijebaaDag
import Derived.Deep.Cut
import Derived.Deep.CutRange
namespace Go.Proofs.Ytfaekebglijebaa
open Go.RowKit
set_option linter.unusedVariables false

def lowR (f g : Nat → Nat) : Nat → Bool
  | 0 => false
  | k + 1 => lowR f g k || decide (f k < g k)
theorem lowR_iff (f g : Nat → Nat) : ∀ n, lowR f g n = true ↔ ∃ i, i < n ∧ f i < g i
  | 0 => by simp [lowR]
  | n + 1 => by
    simp only [lowR, Bool.or_eq_true, lowR_iff f g n, decide_eq_true_eq]
    constructor
    · rintro (⟨i, h1, h2⟩ | h)
      · exact ⟨i, by omega, h2⟩
      · exact ⟨n, by omega, h⟩
    · rintro ⟨i, h1, h2⟩
      by_cases hi : i = n
      · subst hi; exact .inr h2
      · exact .inl ⟨i, by omega, h2⟩
theorem low_all (a b : List UInt8) (ha : a.length = 32) (hb : b.length = 32) : lowR (digN67 a) (digN67 b) 67 = !decide (a = b) := by
  by_cases h : a = b
  · subst h
    have : lowR (digN67 a) (digN67 a) 67 ≠ true := by rw [Ne, lowR_iff]; rintro ⟨i, _, h⟩; omega
    simpa using this
  · have := (lowR_iff (digN67 a) (digN67 b) 67).2 (digits_lower a b ha hb h)
    rw [this]; simp [h]

set_option maxRecDepth 100000 in
set_option maxHeartbeats 40000000 in
theorem crosses_core (w : World) (a b DA DB : List UInt8) (E : Bool) (HA : Hid (DA.length = 67)) (HB : Hid (DB.length = 67)) (IA : Hid ((Try.prog.info? 22).map (·.size) = some (c8 a).length)) (IB : Hid ((Try.prog.info? 22).map (·.size) = some (c8 b).length))
    (ca : ∀ W, Calls Try.prog 13 #[.agg (c8 a).toArray] W fun e w' => e = .returned (.agg (c8 DA).toArray) ∧ W.grownBy w' none)
    (cb : ∀ W, Calls Try.prog 13 #[.agg (c8 b).toArray] W fun e w' => e = .returned (.agg (c8 DB).toArray) ∧ W.grownBy w' none)
    (heq : ∀ W : World, (Op.equalIn 10000 22 (.agg (c8 a).toArray) (.agg (c8 b).toArray)).run Try.prog W = .ok E W)
    (f g : Nat → Nat) (HF : Hid (∀ i, i < 67 → f i < 16 ∧ (c8 DA)[i]? = some (.int .u8 (f i : Int)))) (HG : Hid (∀ i, i < 67 → g i < 16 ∧ (c8 DB)[i]? = some (.int .u8 (g i : Int))))
    (HLO : Hid (lowR f g 67 = !E)) (HHI : Hid (lowR g f 67 = !E)) :
    Calls Try.prog 5 #[.agg (c8 a).toArray, .agg (c8 b).toArray] w fun e w' => e = .returned (.bool true) ∧ w.grownBy w' none := by
  have HIA := Lib.hid (info_67 DA HA.out)
  have HIB := Lib.hid (info_67 DB HB.out)
  have HFA := Lib.hid (show 0 + (c8 DA).length ≤ (c8 z67).length by rw [c8_length, c8_length, HA.out]; decide)
  have HFB := Lib.hid (show 0 + (c8 DB).length ≤ (c8 z67).length by rw [c8_length, c8_length, HB.out]; decide)
  have HEA := Lib.hid (show (c8 DA).length = (c8 z67).length by rw [c8_length, c8_length, HA.out]; decide)
  have HEB := Lib.hid (show (c8 DB).length = (c8 z67).length by rw [c8_length, c8_length, HB.out]; decide)
  go_enter Try.func5, Try.ntmps5
  go_wp2_with (refine wp_box (o := ⟨some 2, _, _, _, _, _⟩) rfl 22 (.tmp 0) rfl (c8 a) rfl ?_)
  intro w1 hr hg hz
  clear hz
  have hS1 := ((Own.start w)).new hr hg
  clear hr hg
  go_wp2_with (refine wp_box (o := ⟨some 3, _, _, _, _, _⟩) rfl 22 (.tmp 1) rfl (c8 b) rfl ?_)
  intro w2 hr hg hz
  clear hz
  have hS2 := (hS1).new hr hg
  clear hr hg
  clear hS1
  go_upto_region 1 with fail
  go_cut [5, 6] from 10 to 13 (fun s5 s6 wc => ∃ g5 g6 : Nat, s5 = .pointer (some ⟨g5, 0, none⟩) ∧ s6 = .pointer (some ⟨g6, 0, none⟩) ∧ Own w wc [rowE g6 31 (c8 DB), rowE g5 31 (c8 DA), rowE w1.heap.size 22 (c8 b), rowE w.heap.size 22 (c8 a)])
  case first =>
    have hS := hS2.drew
    clear hS2
    refine wp_region_dag (w0 := w) (L0 := [rowE w1.heap.size 22 (c8 b), rowE w.heap.size 22 (c8 a)]) (fun _ => true) [0, 2] [(1, 11, .val (.agg (c8 DA).toArray)), (3, 13, .val (.agg (c8 DB).toArray)), (4, 5, .new 31 (c8 z67)), (5, 6, .new 31 (c8 z67))] [6, 7] (by kernel_rfl) (by simp) (by simp) hS (by kernel_rfl) ?_
    simp only [List.map_cons, List.map_nil]
    refine wpMix_pureW (.agg (c8 a).toArray) rfl rfl (fun W hW => run_load_op 22 (.tmp 2) rfl Try.underlying22 rfl ⟨w.heap.size, 0, none⟩ rfl _ IA.out (row_all (hW.row 1 rfl))) ?_
    refine wpMix_pureW (.agg (c8 b).toArray) rfl rfl (fun W hW => run_load_op 22 (.tmp 3) rfl Try.underlying22 rfl ⟨w1.heap.size, 0, none⟩ rfl _ IB.out (row_all (hW.row 0 rfl))) ?_
    change DagGoal _ _ _ _ _ _ _ _ _ _ _
    refine ⟨⟨?_, ?_, ?_, ?_, trivial⟩, ?_⟩
    · refine ⟨_, rfl, rfl, fun f W K hS hK => ?_⟩
      simp only [putsL]
      go_wp2_with fail
      refine (ca _).mono ?_
      rintro e w' ⟨rfl, hg⟩
      go_wp2_with fail
      exact hK _ _ (by kernel_rfl) hg
    · refine ⟨_, rfl, rfl, fun f W K hS hK => ?_⟩
      simp only [putsL]
      go_wp2_with fail
      refine (cb _).mono ?_
      rintro e w' ⟨rfl, hg⟩
      go_wp2_with fail
      exact hK _ _ (by kernel_rfl) hg
    · refine ⟨_, rfl, rfl, fun f W K hS hK => ?_⟩
      simp only [putsL]
      go_wp2_with (refine wp_alloc (o := ⟨some 5, _, _, _, _, _⟩) rfl 31 rfl _ alloc_67 ?_)
      intro w' hr hg hz
      go_wp2_with fail
      exact hK _ _ (by kernel_rfl) hr hg
    · refine ⟨_, rfl, rfl, fun f W K hS hK => ?_⟩
      simp only [putsL]
      go_wp2_with (refine wp_alloc (o := ⟨some 6, _, _, _, _, _⟩) rfl 31 rfl _ alloc_67 ?_)
      intro w' hr hg hz
      go_wp2_with fail
      exact hK _ _ (by kernel_rfl) hr hg
    · intro g W hW hD
      have hD0 : Own w W [rowE (g 5) 31 (c8 z67), rowE (g 6) 31 (c8 z67), rowE w1.heap.size 22 (c8 b), rowE w.heap.size 22 (c8 a)] := hD
      clear hD hS
      simp only [putsS, List.map_cons, List.map_nil]
      refine wpMix_loudW _ rfl rfl ?_
      go_wp2_with (refine wp_storeAgg rfl 31 (.tmp 5) (.tmp 11) rfl (g 5) 0 31 (c8 z67) (c8 DA) rfl rfl (hD0.row 0 rfl) HIA.out HFA.out (one8 _) ?_)
      intro wa hr hg hz
      clear hz
      rw [splice_all HEA.out] at hr
      have hD1 := hD0.setRow 0 rfl hr hg
      clear hr hg hD0
      go_wp2_with fail
      refine wpMix_next' (fun _ => hD1.tail.tail) ?_
      refine wpMix_loudW _ rfl rfl ?_
      go_wp2_with (refine wp_storeAgg rfl 31 (.tmp 6) (.tmp 13) rfl (g 6) 0 31 (c8 z67) (c8 DB) rfl rfl (hD1.row 1 rfl) HIB.out HFB.out (one8 _) ?_)
      intro wb hr hg hz
      clear hz
      rw [splice_all HEB.out] at hr
      have hD2 := hD1.setRow 1 rfl hr hg
      clear hr hg hD1
      go_wp2_with fail
      refine wpMix_next' (fun _ => hD2.tail.tail) ?_
      unfold wpMix
      go_wp2_with fail
      go_meet
      case rel => exact ⟨_, _, rfl, rfl, hD2.swap⟩
  case rest =>
    obtain ⟨g5, g6, rfl, rfl, hS⟩ := hcut
    clear hS2
    go_wp2
    go_loopw [7, 8, 14] (fun lv hv iv wr => ∃ k : Nat, k ≤ 67 ∧ iv = .int .i64 (k : Int) ∧ lv = .bool (lowR f g k) ∧ hv = .bool (lowR g f k) ∧ Own w wr [rowE g6 31 (c8 DB), rowE g5 31 (c8 DA), rowE w1.heap.size 22 (c8 b), rowE w.heap.size 22 (c8 a)]) (fun _ _ iv _ => 67 - (intOf iv).toNat)
    case atStart => exact ⟨0, by omega, rfl, rfl, rfl, hS⟩
    case round =>
      clear hS
      obtain ⟨k, hk, rfl, rfl, rfl, hS⟩ := hrel
      by_cases hlt : k < 67
      · have q1 : (k : Int) < 67 := by omega
        obtain ⟨hf, hfc⟩ := HF.out k hlt
        obtain ⟨hg, hgc⟩ := HG.out k hlt
        obtain ⟨lo, hlo⟩ : ∃ lo, lo = lowR f g k := ⟨_, rfl⟩
        obtain ⟨hi, hhi⟩ : ∃ hi, hi = lowR g f k := ⟨_, rfl⟩
        have hl1 : lowR f g (k + 1) = (lo || decide (f k < g k)) := by rw [hlo]; rfl
        have hh1 : lowR g f (k + 1) = (hi || decide (g k < f k)) := by rw [hhi]; rfl
        rw [← hlo, ← hhi]
        obtain ⟨p, hp⟩ : ∃ p : Int, p = (f k : Int) := ⟨_, rfl⟩
        obtain ⟨q, hq⟩ : ∃ q : Int, q = (g k : Int) := ⟨_, rfl⟩
        have e1 : decide (f k < g k) = decide (p < q) := by rw [hp, hq]; simp
        have e2 : decide (g k < f k) = decide (q < p) := by rw [hp, hq]; simp
        rw [e1] at hl1
        rw [e2] at hh1
        rw [← hp] at hfc
        rw [← hq] at hgc
        have HFC := Lib.hid hfc
        have HGC := Lib.hid hgc
        obtain ⟨bl, hbl⟩ : ∃ bl, decide (p < q) = bl := ⟨_, rfl⟩
        obtain ⟨bh, hbh⟩ : ∃ bh, decide (q < p) = bh := ⟨_, rfl⟩
        rw [hbl] at hl1
        rw [hbh] at hh1
        have HL1 := Lib.hid hl1
        have HH1 := Lib.hid hh1
        have HK := Lib.hid (show k < 67 from hlt)
        clear hlo hhi hl1 hh1 hp hq e1 e2 hf hg hfc hgc hlt hk
        go_wp2
        cases lo <;> cases hi
        · skip
          have hS2 := hS.drew
          clear hS
          refine wp_region_mixC (fun W => Own w W _) (fun _ => true) [(0, true), (1, true), (2, true), (3, true), (4, true), (5, true), (6, true), (7, true), (8, true), (9, true), (10, true), (11, true), (12, true), (13, true), (14, true), (15, true), (16, true), (17, true), (18, true), (19, true), (20, false), (21, false)] (by kernel_rfl) (by kernel_rfl) hS2 ?_
          iterate 4 (refine wpMix_step rfl (fun K hK => ?_); go_simp; (try go_bits); with_reducible refine hK _ ?_; clear hK K)
          refine wpMix_pureW _ rfl rfl (fun W hW => run_load_cell 5 (.tmp 20) rfl Try.underlying5 rfl ⟨g5, k, none⟩ rfl _ (((hW.row 1 rfl).cell k).trans HFC.out)) ?_
          iterate 2 (refine wpMix_step rfl (fun K hK => ?_); go_simp; (try go_bits); with_reducible refine hK _ ?_; clear hK K)
          refine wpMix_pureW _ rfl rfl (fun W hW => run_load_cell 5 (.tmp 23) rfl Try.underlying5 rfl ⟨g6, k, none⟩ rfl _ (((hW.row 0 rfl).cell k).trans HGC.out)) ?_
          iterate 2 (refine wpMix_step rfl (fun K hK => ?_); go_simp; (try go_bits); with_reducible refine hK _ ?_; clear hK K)
          iterate 4 (refine wpMix_step rfl (fun K hK => ?_); go_simp; (try go_bits); with_reducible refine hK _ ?_; clear hK K)
          refine wpMix_pureW _ rfl rfl (fun W hW => run_load_cell 5 (.tmp 30) rfl Try.underlying5 rfl ⟨g5, k, none⟩ rfl _ (((hW.row 1 rfl).cell k).trans HFC.out)) ?_
          iterate 2 (refine wpMix_step rfl (fun K hK => ?_); go_simp; (try go_bits); with_reducible refine hK _ ?_; clear hK K)
          refine wpMix_pureW _ rfl rfl (fun W hW => run_load_cell 5 (.tmp 33) rfl Try.underlying5 rfl ⟨g6, k, none⟩ rfl _ (((hW.row 0 rfl).cell k).trans HGC.out)) ?_
          iterate 2 (refine wpMix_step rfl (fun K hK => ?_); go_simp; (try go_bits); with_reducible refine hK _ ?_; clear hK K)
          refine wpMix_loudW _ rfl rfl ?_
          go_wp2_with fail
          refine wpMix_next' (fun _ => hS2) ?_
          refine wpMix_loudW _ rfl rfl ?_
          go_wp2_with fail
          refine wpMix_next' (fun _ => hS2) ?_
          unfold wpMix
          go_wp2
          go_roundw
          case rel => exact ⟨k + 1, by have := HK.out; omega, by go_num, by rw [HL1.out]; simp, by rw [HH1.out]; simp, hS2⟩
          case measure => simp [intOf] <;> omega
        · skip
          have hS2 := hS.drew
          clear hS
          refine wp_region_mixC (fun W => Own w W _) (fun _ => true) [(0, true), (1, true), (2, true), (3, true), (4, true), (5, true), (6, true), (7, true), (8, true), (9, true), (10, true), (11, true), (12, true), (13, true), (14, true), (15, true), (16, true), (17, true), (18, true), (19, true), (20, false), (21, false)] (by kernel_rfl) (by kernel_rfl) hS2 ?_
          iterate 4 (refine wpMix_step rfl (fun K hK => ?_); go_simp; (try go_bits); with_reducible refine hK _ ?_; clear hK K)
          refine wpMix_pureW _ rfl rfl (fun W hW => run_load_cell 5 (.tmp 20) rfl Try.underlying5 rfl ⟨g5, k, none⟩ rfl _ (((hW.row 1 rfl).cell k).trans HFC.out)) ?_
          iterate 2 (refine wpMix_step rfl (fun K hK => ?_); go_simp; (try go_bits); with_reducible refine hK _ ?_; clear hK K)
          refine wpMix_pureW _ rfl rfl (fun W hW => run_load_cell 5 (.tmp 23) rfl Try.underlying5 rfl ⟨g6, k, none⟩ rfl _ (((hW.row 0 rfl).cell k).trans HGC.out)) ?_
          iterate 2 (refine wpMix_step rfl (fun K hK => ?_); go_simp; (try go_bits); with_reducible refine hK _ ?_; clear hK K)
          iterate 10 (refine wpMix_step rfl (fun K hK => ?_); go_simp; (try go_bits); with_reducible refine hK _ ?_; clear hK K)
          refine wpMix_loudW _ rfl rfl ?_
          go_wp2_with fail
          refine wpMix_next' (fun _ => hS2) ?_
          refine wpMix_loudW _ rfl rfl ?_
          go_wp2_with fail
          refine wpMix_next' (fun _ => hS2) ?_
          unfold wpMix
          go_wp2
          go_roundw
          case rel => exact ⟨k + 1, by have := HK.out; omega, by go_num, by rw [HL1.out]; simp, by rw [HH1.out]; simp, hS2⟩
          case measure => simp [intOf] <;> omega
        · skip
          have hS2 := hS.drew
          clear hS
          refine wp_region_mixC (fun W => Own w W _) (fun _ => true) [(0, true), (1, true), (2, true), (3, true), (4, true), (5, true), (6, true), (7, true), (8, true), (9, true), (10, true), (11, true), (12, true), (13, true), (14, true), (15, true), (16, true), (17, true), (18, true), (19, true), (20, false), (21, false)] (by kernel_rfl) (by kernel_rfl) hS2 ?_
          iterate 10 (refine wpMix_step rfl (fun K hK => ?_); go_simp; (try go_bits); with_reducible refine hK _ ?_; clear hK K)
          iterate 4 (refine wpMix_step rfl (fun K hK => ?_); go_simp; (try go_bits); with_reducible refine hK _ ?_; clear hK K)
          refine wpMix_pureW _ rfl rfl (fun W hW => run_load_cell 5 (.tmp 30) rfl Try.underlying5 rfl ⟨g5, k, none⟩ rfl _ (((hW.row 1 rfl).cell k).trans HFC.out)) ?_
          iterate 2 (refine wpMix_step rfl (fun K hK => ?_); go_simp; (try go_bits); with_reducible refine hK _ ?_; clear hK K)
          refine wpMix_pureW _ rfl rfl (fun W hW => run_load_cell 5 (.tmp 33) rfl Try.underlying5 rfl ⟨g6, k, none⟩ rfl _ (((hW.row 0 rfl).cell k).trans HGC.out)) ?_
          iterate 2 (refine wpMix_step rfl (fun K hK => ?_); go_simp; (try go_bits); with_reducible refine hK _ ?_; clear hK K)
          refine wpMix_loudW _ rfl rfl ?_
          go_wp2_with fail
          refine wpMix_next' (fun _ => hS2) ?_
          refine wpMix_loudW _ rfl rfl ?_
          go_wp2_with fail
          refine wpMix_next' (fun _ => hS2) ?_
          unfold wpMix
          go_wp2
          go_roundw
          case rel => exact ⟨k + 1, by have := HK.out; omega, by go_num, by rw [HL1.out]; simp, by rw [HH1.out]; simp, hS2⟩
          case measure => simp [intOf] <;> omega
        · skip
          have hS2 := hS.drew
          clear hS
          refine wp_region_mixC (fun W => Own w W _) (fun _ => true) [(0, true), (1, true), (2, true), (3, true), (4, true), (5, true), (6, true), (7, true), (8, true), (9, true), (10, true), (11, true), (12, true), (13, true), (14, true), (15, true), (16, true), (17, true), (18, true), (19, true), (20, false), (21, false)] (by kernel_rfl) (by kernel_rfl) hS2 ?_
          iterate 10 (refine wpMix_step rfl (fun K hK => ?_); go_simp; (try go_bits); with_reducible refine hK _ ?_; clear hK K)
          iterate 10 (refine wpMix_step rfl (fun K hK => ?_); go_simp; (try go_bits); with_reducible refine hK _ ?_; clear hK K)
          refine wpMix_loudW _ rfl rfl ?_
          go_wp2_with fail
          refine wpMix_next' (fun _ => hS2) ?_
          refine wpMix_loudW _ rfl rfl ?_
          go_wp2_with fail
          refine wpMix_next' (fun _ => hS2) ?_
          unfold wpMix
          go_wp2
          go_roundw
          case rel => exact ⟨k + 1, by have := HK.out; omega, by go_num, by rw [HL1.out]; simp, by rw [HH1.out]; simp, hS2⟩
          case measure => simp [intOf] <;> omega
      · obtain rfl : k = 67 := by omega
        rw [HLO.out, HHI.out]
        clear hlt hk
        cases E
        · go_wp2_with fail
          refine (awake_any _).mono ?_
          rintro e w6 ⟨rfl, hg⟩
          have hS6 := hS.call hg
          clear hg hS
          go_wp2_with (first | (refine wp_load rfl 22 (.tmp 2) rfl Try.underlying22 rfl ⟨w.heap.size, 0, none⟩ rfl (c8 a) IA.out (row_all (hS6.row 3 rfl)) ?_) | (refine wp_load rfl 22 (.tmp 3) rfl Try.underlying22 rfl ⟨w1.heap.size, 0, none⟩ rfl (c8 b) IB.out (row_all (hS6.row 2 rfl)) ?_))
          go_ret
          exact ⟨rfl, hS6.grown⟩
        · go_wp2_with fail
          refine (awake_any _).mono ?_
          rintro e w6 ⟨rfl, hg⟩
          have hS6 := hS.call hg
          clear hg hS
          go_wp2_with (first | (refine wp_load rfl 22 (.tmp 2) rfl Try.underlying22 rfl ⟨w.heap.size, 0, none⟩ rfl (c8 a) IA.out (row_all (hS6.row 3 rfl)) ?_) | (refine wp_load rfl 22 (.tmp 3) rfl Try.underlying22 rfl ⟨w1.heap.size, 0, none⟩ rfl (c8 b) IB.out (row_all (hS6.row 2 rfl)) ?_))
          go_ret
          exact ⟨rfl, hS6.grown⟩
theorem dig_cells (a : List UInt8) : ∀ i, i < 67 → digN67 a i < 16 ∧ (c8 (digitsL a))[i]? = some (.int .u8 (digN67 a i : Int)) := by
  intro i hi
  refine ⟨digN67_lt a i, ?_⟩
  rw [c8_get _ i (by rw [digitsL_length]; exact hi), digitsL_get a i hi]
  have := n8_d8 a i
  unfold d8 at this
  rw [this]
theorem walk_ChainCrosses (w : World) (a : List UInt8) (ha : a.length = 32) (b : List UInt8) (hb : b.length = 32) :
    Calls Try.prog 5 #[.agg (c8 a).toArray, .agg (c8 b).toArray] w fun e w' => e = .returned (.bool true) ∧ w.grownBy w' none := by
  refine crosses_core w a b (digitsL a) (digitsL b) (decide (a = b)) (Lib.hid (digitsL_length a)) (Lib.hid (digitsL_length b)) (Lib.hid (info_a32 a ha)) (Lib.hid (info_a32 b hb)) (fun W => digits_any a W ha) (fun W => digits_any b W hb) (fun W => eq_a32 W a b ha hb)
    (digN67 a) (digN67 b) (Lib.hid (dig_cells a)) (Lib.hid (dig_cells b)) (Lib.hid (low_all a b ha hb)) (Lib.hid ?_)
  rw [low_all b a hb ha]
  by_cases h : a = b
  · subst h; rfl
  · rw [decide_eq_false h, decide_eq_false (fun e => h e.symm)]
end Go.Proofs.Ytfaekebglijebaa
