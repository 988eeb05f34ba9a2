/- The contract of the document's Block. -/
import Derived.Test.YtpohjldhbaalbaaBlock
import Derived.Test.YtpohjldhbaalbaaAgg
import Derived.Lib.Hide
import Derived.StillTailTactics
namespace Go.Proofs.Ytpohjldhbaalbaa
set_option linter.unusedVariables false
set_option linter.unusedSimpArgs false
set_option linter.unusedSectionVars false
open Go.RowKit

theorem or32_sum (a b : Nat) (k : Nat) (ha : a % 2 ^ k = 0) (hb : b < 2 ^ k) (h : a + b < 4294967296) : bits .or .u32 (a : Int) (b : Int) = ((a + b : Nat) : Int) := by
  rw [u32_or_nat a b (by omega) (by omega), nat_join k a b ha hb]
theorem be32_sum (a b c d : UInt8) : n8 a * 16777216 + n8 b * 65536 + n8 c * 256 + n8 d = n32 (be32 a b c d) := by
  rw [← w_be32]
  unfold n8
  have ha := n8_lt a
  have hb := n8_lt b
  have hc := n8_lt c
  have hd := n8_lt d
  rw [show (a.toNat : Int) * 16777216 = ((a.toNat * 16777216 : Nat) : Int) from by omega, show (b.toNat : Int) * 65536 = ((b.toNat * 65536 : Nat) : Int) from by omega, show (c.toNat : Int) * 256 = ((c.toNat * 256 : Nat) : Int) from by omega]
  rw [or32_sum _ _ 24 (by omega) (by omega) (by omega), or32_sum _ _ 16 (by omega) (by omega) (by omega), or32_sum _ _ 8 (by omega) (by omega) (by omega)]
  omega
theorem w_not32 (x : UInt32) : 4294967295 - n32 x = n32 (not32 x) := by
  unfold n32 not32; rw [UInt32.toNat_not]; have := x.toNat_lt; simp only [UInt32.size]; omega
theorem and32_comm (x y : UInt32) : and32 x y = and32 y x := by unfold and32; exact UInt32.and_comm ..

def z64 : List Value := c32 (List.replicate 64 0)
def z8 : List Value := c32 (List.replicate 8 0)
theorem alloc_w (W : World) : (Instr.alloc 101 true (.tuple #[])).run Try.prog W = .ok (.pointer (some ⟨W.heap.size, 0, none⟩)) (W.alloc (.cells z64.toArray 101)) := by kernel_rfl
theorem alloc_h (W : World) : (Instr.alloc 90 true (.tuple #[])).run Try.prog W = .ok (.pointer (some ⟨W.heap.size, 0, none⟩)) (W.alloc (.cells z8.toArray 90)) := by kernel_rfl

set_option maxRecDepth 100000 in
theorem k_any (w : World) :
    Calls Try.prog 76 #[] w fun e w' => e = .returned (.agg (c32 kList).toArray) ∧ w.grownBy w' none := by
  go_enter Try.func76, Try.ntmps76
  go_wp2_with (first | (refine wpList_val (o := ⟨some 1, _, _, _, _, _⟩) rfl (.agg (c32 kList).toArray) ?_ ?_; · kernel_rfl) | (refine wp_storeAgg rfl 101 (.tmp 0) (.tmp 1) rfl w.heap.size 0 101 (c32 (List.replicate 64 0)) (c32 kList) rfl rfl ?_ ?_ ?_ ?_ ?_))
  · exact Row.new w _ (c32 (List.replicate 64 0))
  · kernel_rfl
  · simp [kList]
  · simp [c32, v32, Value.oneCell']
  · intro w' hr hg hs
    rw [splice_all (by simp [kList])] at hr
    go_wp2
    refine bodyPost_ret (v := .agg (c32 kList).toArray) (results_cell_row rfl _ _ w.heap.size _ _ _ _ rfl hr Try.underlying101 rfl (by kernel_rfl)) rfl ⟨rfl, grownBy_in (grownBy_alloc' (grownBy_refl _ _) _) hg (Nat.le_refl _)⟩

set_option maxRecDepth 100000 in
theorem begin_any (w : World) :
    Calls Try.prog 72 #[] w fun e w' => e = .returned (.agg (c32 (wordsOf begin0)).toArray) ∧ w.grownBy w' none := by
  go_enter Try.func72, Try.ntmps72
  go_wp2_with (first | (refine wpList_val (o := ⟨some 1, _, _, _, _, _⟩) rfl (.agg (c32 (wordsOf begin0)).toArray) ?_ ?_; · kernel_rfl) | (refine wp_storeAgg rfl 90 (.tmp 0) (.tmp 1) rfl w.heap.size 0 90 (c32 (List.replicate 8 0)) (c32 (wordsOf begin0)) rfl rfl ?_ ?_ ?_ ?_ ?_))
  · exact Row.new w _ (c32 (List.replicate 8 0))
  · kernel_rfl
  · simp [wordsOf]
  · simp [c32, v32, Value.oneCell']
  · intro w' hr hg hs
    rw [splice_all (by simp [wordsOf])] at hr
    go_wp2
    refine bodyPost_ret (v := .agg (c32 (wordsOf begin0)).toArray) (results_cell_row rfl _ _ w.heap.size _ _ _ _ rfl hr Try.underlying90 rfl (by kernel_rfl)) rfl ⟨rfl, grownBy_in (grownBy_alloc' (grownBy_refl _ _) _) hg (Nat.le_refl _)⟩


set_option maxRecDepth 100000 in
set_option maxHeartbeats 4000000 in
theorem rblock_any (b off n c : Nat) (v : V8) (p : List UInt8) (w : World) (hp : BytesAt w b off p) (hpl : p.length = 64) (hn : 64 ≤ n) (hnm : n ≤ 9223372036854775807) :
    Calls Try.prog 71 #[.agg (c32 (wordsOf v)).toArray, .slice (some ⟨b, off, none⟩) n c] w
      fun e w' => e = .returned (.agg (c32 (wordsOf (compress v p))).toArray) ∧ w.grownBy w' none := by
  have hbw : b < w.heap.size := World.block_lt_of_cell? w _ (hp 0 (by omega))
  go_enter Try.func71, Try.ntmps71
  go_wp2_with (refine wp_box (o := ⟨some 2, _, _, _, _, _⟩) rfl 90 (.tmp 0) rfl (c32 (wordsOf v)) rfl ?_)
  intro w1 hh1 hg1 hz1
  have HZ1 := Lib.hid hz1
  clear hz1
  go_wp2_with (refine wp_alloc (o := ⟨some 4, _, _, _, _, _⟩) rfl 90 rfl _ alloc_h ?_)
  intro w2 hr2 hg2 hz2
  have HZ2 := Lib.hid hz2
  have hh2 := hh1.grown hg2 (by simp)
  have hg02 := grownBy_trans hg1 hg2
  clear hz2 hh1 hg1 hg2
  go_wp2_with fail
  refine (k_any _).mono ?_
  rintro e w3 ⟨rfl, hg3⟩
  have hr3 := hr2.grown hg3 (by simp)
  have hh3 := hh2.grown hg3 (by simp)
  have hg03 := grownBy_trans hg02 hg3
  have hz3 := hg3.size
  clear hr2 hh2 hg02 hg3
  go_wp2_with (refine wp_alloc (o := ⟨some 5, _, _, _, _, _⟩) rfl 101 rfl _ alloc_w ?_)
  intro w4 hk4 hg4 hz4
  have HZ4 := Lib.hid hz4
  have hr4 := hr3.grown hg4 (by simp)
  have hh4 := hh3.grown hg4 (by simp)
  have hg04 := grownBy_trans hg03 hg4
  have hk4' := Lib.hid hk4
  have hik := Lib.hid (show (Try.prog.info? 101).map (·.size) = some (c32 kList).length by kernel_rfl)
  have hfk := Lib.hid (show 0 + (c32 kList).length ≤ z64.length by decide)
  have hok := Lib.hid (one32 kList)
  clear hz4 hr3 hh3 hg03 hg4 hk4
  go_wp2_with (refine wp_storeAgg rfl 101 (.tmp 5) (.tmp 21) rfl w3.heap.size 0 101 z64 (c32 kList) rfl rfl hk4'.out hik.out hfk.out hok.out ?_)
  intro w5 hk5 hg5 hz5
  rw [splice_all (by decide)] at hk5
  have hz1 := HZ1.out
  have hz2 := HZ2.out
  have hz4 := HZ4.out
  have hr5 := hr4.grown hg5 (by simp; omega)
  have hh5 := hh4.grown hg5 (by simp; omega)
  have hg05 := grownBy_in hg04 hg5 (by omega)
  have n1 : w.heap.size < w1.heap.size := by omega
  have n2 : w1.heap.size < w3.heap.size := by omega
  have n3 : w3.heap.size < w5.heap.size := by omega
  clear hz1 hz2 hz4 hz5 hr4 hh4 hg04 hg5 HZ1 HZ2 HZ4 hk4' hik hfk hok hz3
  go_wp2_with (refine wp_alloc (o := ⟨some 6, _, _, _, _, _⟩) rfl 101 rfl _ alloc_w ?_)
  intro w6 hw6 hg6 hz6
  have hr6 := hr5.grown hg6 (by simp)
  have hh6 := hh5.grown hg6 (by simp)
  have hk6 := hk5.grown hg6 (by simp)
  have hg06 := grownBy_trans hg05 hg6
  clear hz6 hr5 hh5 hk5 hg05 hg6
  have hw6' : Row w6 w5.heap.size 101 (c32 (sched p 0)) := hw6
  clear hw6
  go_wp2
  go_loopw [7] (fun i wr => ∃ k : Nat, k ≤ 64 ∧ i = .int .i64 k ∧ Row wr w5.heap.size 101 (c32 (sched p k)) ∧ Row wr w3.heap.size 101 (c32 kList) ∧ Row wr w1.heap.size 90 z8 ∧ Row wr w.heap.size 90 (c32 (wordsOf v)) ∧ w.grownBy wr none) (fun i _ => 64 - (intOf i).toNat)
  case atStart => exact ⟨0, by omega, rfl, hw6', hk6, hr6, hh6, hg06⟩
  case round =>
    clear hr6 hh6 hk6 hg06 hw6'
    obtain ⟨k, hk64, rfl, hw, hkr, hrr, hhr, hgr⟩ := hrel
    by_cases hlt : k < 64
    · rcases Nat.lt_or_ge k 16 with hlt16 | hge16
      · have r16 : (k : Int) < 16 := by omega
        have c0 := (hw.cell k).trans (c32_get _ k (by rw [sched_length]; omega))
        have f0 := hw.frozen k
        have p0 := hgr.cell (hp (4 * k) (by omega)) (by simp)
        have p1 := hgr.cell (hp (4 * k + 1) (by omega)) (by simp)
        have p2 := hgr.cell (hp (4 * k + 2) (by omega)) (by simp)
        have p3 := hgr.cell (hp (4 * k + 3) (by omega)) (by simp)
        have q0 : 0 ≤ 4 * (k : Int) := by omega
        have q1 : 4 * (k : Int) < n := by omega
        have q2 : 0 ≤ 4 * (k : Int) + 1 := by omega
        have q3 : 4 * (k : Int) + 1 < n := by omega
        have q4 : 0 ≤ 4 * (k : Int) + 2 := by omega
        have q5 : 4 * (k : Int) + 2 < n := by omega
        have q6 : 0 ≤ 4 * (k : Int) + 3 := by omega
        have q7 : 4 * (k : Int) + 3 < n := by omega
        have q8 : (k : Int) < 64 := by omega
        obtain ⟨b0, hb0⟩ : ∃ x, x = p.getD (4 * k) 0 := ⟨_, rfl⟩
        obtain ⟨b1, hb1⟩ : ∃ x, x = p.getD (4 * k + 1) 0 := ⟨_, rfl⟩
        obtain ⟨b2, hb2⟩ : ∃ x, x = p.getD (4 * k + 2) 0 := ⟨_, rfl⟩
        obtain ⟨b3, hb3⟩ : ∃ x, x = p.getD (4 * k + 3) 0 := ⟨_, rfl⟩
        rw [← hb0] at p0
        rw [← hb1] at p1
        rw [← hb2] at p2
        rw [← hb3] at p3
        have HW : Hid (wordAt p k = be32 b0 b1 b2 b3) := by show _ = _; rw [hb0, hb1, hb2, hb3]; rfl
        have hbe := be32_sum b0 b1 b2 b3
        have l0 := n8_lo b0
        have l1 := n8_lo b1
        have l2 := n8_lo b2
        have l3 := n8_lo b3
        have m0 := n8_hi b0
        have m1 := n8_hi b1
        have m2 := n8_hi b2
        have m3 := n8_hi b3
        clear hb0 hb1 hb2 hb3 hp
        go_wp2
        refine wp_region_still_tail 35 (by kernel_rfl) (by kernel_rfl) ?_
        simp only [List.take_succ_cons, List.take_zero, List.drop_succ_cons, List.drop_zero]
        change wpStill _ _ wr.drew _ _ _
        iterate 35 (refine wpStill_step (fun K hK => ?_); go_simp; (try go_bits); with_reducible refine hK _ ?_; clear hK K)
        refine wpStill_nil ?_
        change wpList _ _ _ _ _ wr.drew
        go_wp2
        go_roundw
        case rel =>
          refine ⟨k + 1, by omega, by go_num, ?_, (hkr.far (by simp; omega) _).drew, (hrr.far (by simp; omega) _).drew, (hhr.far (by simp; omega) _).drew, grownBy_drew (grownBy_set hgr (.inl (by simp; omega)) _)⟩
          rw [← sched_low p k _ hlt16 HW.out]
          exact (hw.set k _).drew
        case measure => simp [intOf]; omega
      · have wx := w_xor32
        have wa := w_add32
        have hk16 := hge16
        have r16' : ¬ ((k : Int) < 16) := by omega
        have hlen := sched_length p k
        have c0 := (hw.cell k).trans (c32_get _ k (by omega))
        have f0 := hw.frozen k
        have c16 := (hw.cell (k - 16)).trans (c32_get _ (k - 16) (by omega))
        have c15 := (hw.cell (k - 15)).trans (c32_get _ (k - 15) (by omega))
        have c7 := (hw.cell (k - 7)).trans (c32_get _ (k - 7) (by omega))
        have c2 := (hw.cell (k - 2)).trans (c32_get _ (k - 2) (by omega))
        obtain ⟨x16, h16⟩ : ∃ x, x = (sched p k).getD (k - 16) 0 := ⟨_, rfl⟩
        obtain ⟨x15, h15⟩ : ∃ x, x = (sched p k).getD (k - 15) 0 := ⟨_, rfl⟩
        obtain ⟨x7, h7⟩ : ∃ x, x = (sched p k).getD (k - 7) 0 := ⟨_, rfl⟩
        obtain ⟨x2, h2⟩ : ∃ x, x = (sched p k).getD (k - 2) 0 := ⟨_, rfl⟩
        rw [← h16] at c16
        rw [← h15] at c15
        rw [← h7] at c7
        rw [← h2] at c2
        have HW : Hid (nextW (sched p k) k = add32 (add32 (add32 x16 (sg0 x15)) x7) (sg1 x2)) := by show _ = _; rw [h16, h15, h7, h2]; rfl
        clear h16 h15 h7 h2 hlen
        have q16 : (16 : Int) ≤ k := by omega
        have q15 : (15 : Int) ≤ k := by omega
        have q7 : (7 : Int) ≤ k := by omega
        have q2 : (2 : Int) ≤ k := by omega
        have r0 : (k : Int) < 64 := by omega
        have r16 : (k : Int) - 16 < 64 := by omega
        have r15 : (k : Int) - 15 < 64 := by omega
        have r7 : (k : Int) - 7 < 64 := by omega
        have r2 : (k : Int) - 2 < 64 := by omega
        have s3 := w_shr3 x15
        have s10 := w_shr10 x2
        clear hp
        go_wp2
        refine wp_region_still_lit (by kernel_rfl) (by kernel_rfl) ?_
        change wpStill _ _ wr.drew _ _ _
        iterate 18 (refine wpStill_step (fun K hK => ?_); go_simp; (try go_bits); first | (with_reducible refine hK _ ?_; clear hK K) | (apply Exists.intro; apply And.intro; exact still_of (turn_c _ _ _ (by decide)); refine hK _ ?_; clear hK K))
        refine wpStill_nil ?_
        go_wp2
        refine wp_region_still_lit (by kernel_rfl) (by kernel_rfl) ?_
        change wpStill _ _ wr.drew.drew _ _ _
        iterate 18 (refine wpStill_step (fun K hK => ?_); go_simp; (try go_bits); first | (with_reducible refine hK _ ?_; clear hK K) | (apply Exists.intro; apply And.intro; exact still_of (turn_c _ _ _ (by decide)); refine hK _ ?_; clear hK K))
        refine wpStill_nil ?_
        go_wp2
        refine wp_region_still_tail 15 (by kernel_rfl) (by kernel_rfl) ?_
        simp only [List.take_succ_cons, List.take_zero, List.drop_succ_cons, List.drop_zero]
        change wpStill _ _ wr.drew.drew.drew _ _ _
        iterate 15 (refine wpStill_step (fun K hK => ?_); go_simp; (try go_bits); with_reducible refine hK _ ?_; clear hK K)
        refine wpStill_nil ?_
        change wpList _ _ _ _ _ wr.drew.drew.drew
        go_wp2
        go_roundw
        case rel =>
          refine ⟨k + 1, by omega, by go_num, ?_, (hkr.far (by simp; omega) _).drew.drew.drew, (hrr.far (by simp; omega) _).drew.drew.drew, (hhr.far (by simp; omega) _).drew.drew.drew, grownBy_drew (grownBy_drew (grownBy_drew (grownBy_set hgr (.inl (by simp; omega)) _)))⟩
          rw [← sched_high p k _ hk16 HW.out]
          exact (hw.set k _).drew.drew.drew
        case measure => simp [intOf]; omega
    · have hke : k = 64 := by omega
      rw [hke] at hw
      clear hke hp
      have g0 : wr.cell? ⟨w.heap.size, 0, none⟩ = some (.int .u32 (n32 v.a)) := hhr.cell 0
      have g1 : wr.cell? ⟨w.heap.size, 1, none⟩ = some (.int .u32 (n32 v.b)) := hhr.cell 1
      have g2 : wr.cell? ⟨w.heap.size, 2, none⟩ = some (.int .u32 (n32 v.c)) := hhr.cell 2
      have g3 : wr.cell? ⟨w.heap.size, 3, none⟩ = some (.int .u32 (n32 v.d)) := hhr.cell 3
      have g4 : wr.cell? ⟨w.heap.size, 4, none⟩ = some (.int .u32 (n32 v.e)) := hhr.cell 4
      have g5 : wr.cell? ⟨w.heap.size, 5, none⟩ = some (.int .u32 (n32 v.f)) := hhr.cell 5
      have g6 : wr.cell? ⟨w.heap.size, 6, none⟩ = some (.int .u32 (n32 v.g)) := hhr.cell 6
      have g7 : wr.cell? ⟨w.heap.size, 7, none⟩ = some (.int .u32 (n32 v.h)) := hhr.cell 7
      go_wp2
      refine wp_region_still_lit (by kernel_rfl) (by kernel_rfl) ?_
      change wpStill _ _ wr.drew _ _ _
      iterate 12 (refine wpStill_step (fun K hK => ?_); go_simp; (try go_bits); with_reducible refine hK _ ?_; clear hK K)
      refine wpStill_nil ?_
      go_wp2
      refine wp_region_still_lit (by kernel_rfl) (by kernel_rfl) ?_
      change wpStill _ _ wr.drew.drew _ _ _
      iterate 12 (refine wpStill_step (fun K hK => ?_); go_simp; (try go_bits); with_reducible refine hK _ ?_; clear hK K)
      refine wpStill_nil ?_
      clear g0 g1 g2 g3 g4 g5 g6 g7
      go_wp2
      have wx := w_xor32
      have wa := w_add32
      have wn := w_and32
      go_loopw [10, 11, 12, 13, 14, 15, 16, 17, 18] (fun sa sb sc sd se sf sg sh i w7 => ∃ (k : Nat) (V : V8), k ≤ 64 ∧ V = roundsTo (sched p 64) v k ∧ sa = .int .u32 (n32 V.a) ∧ sb = .int .u32 (n32 V.b) ∧ sc = .int .u32 (n32 V.c) ∧ sd = .int .u32 (n32 V.d) ∧
        se = .int .u32 (n32 V.e) ∧ sf = .int .u32 (n32 V.f) ∧ sg = .int .u32 (n32 V.g) ∧ sh = .int .u32 (n32 V.h) ∧ i = .int .i64 k ∧ Row w7 w5.heap.size 101 (c32 (sched p 64)) ∧ Row w7 w3.heap.size 101 (c32 kList) ∧
        Row w7 w1.heap.size 90 z8 ∧ Row w7 w.heap.size 90 (c32 (wordsOf v)) ∧ w.grownBy w7 none) (fun _ _ _ _ _ _ _ _ i _ => 64 - (intOf i).toNat)
      case atStart => exact ⟨0, v, by omega, rfl, rfl, rfl, rfl, rfl, rfl, rfl, rfl, rfl, rfl, hw.drew.drew, hkr.drew.drew, hrr.drew.drew, hhr.drew.drew, grownBy_drew (grownBy_drew hgr)⟩
      case round =>
        clear hw hkr hrr hhr hgr
        rename World => w7
        obtain ⟨k, V, hk64, hV, rfl, rfl, rfl, rfl, rfl, rfl, rfl, rfl, rfl, hw, hkr, hrr, hhr, hgr⟩ := hrel
        by_cases hlt : k < 64
        · have kc := (hkr.cell k).trans (c32_get _ k (by show k < 64; exact hlt))
          have wc := (hw.cell k).trans (c32_get _ k (by rw [sched_length]; exact hlt))
          obtain ⟨kk, hkk⟩ : ∃ x, x = kAt k := ⟨_, rfl⟩
          obtain ⟨ww, hww⟩ : ∃ x, x = (sched p 64).getD k 0 := ⟨_, rfl⟩
          rw [← hww] at wc
          rw [show kList.getD k 0 = kk from hkk.symm] at kc
          have HX : Hid (roundOf V kk ww = roundsTo (sched p 64) v (k + 1)) := by show _ = _; rw [hV, hkk, hww]; rfl
          have le1 := n32_lo V.e
          have le2 := n32_hi V.e
          have nn := w_not32 V.e
          have nc := and32_comm (not32 V.e) V.g
          have r0 : (k : Int) < 64 := by omega
          clear hV hkk hww
          go_wp2
          refine wp_region_still_lit (by kernel_rfl) (by kernel_rfl) ?_
          change wpStill _ _ w7.drew _ _ _
          iterate 28 (refine wpStill_step (fun K hK => ?_); go_simp; (try go_bits); first | (with_reducible refine hK _ ?_; clear hK K) | (apply Exists.intro; apply And.intro; exact still_of (turn_c _ _ _ (by decide)); refine hK _ ?_; clear hK K))
          refine wpStill_nil ?_
          go_wp2_with (go_at_call 77; refine (turn_c _ _ _ (by decide)).mono ?_; rintro e w' ⟨rfl, rfl⟩)
          go_roundw
          case rel => exact ⟨k + 1, _, by omega, HX.out, rfl, rfl, rfl, rfl, rfl, rfl, rfl, rfl, by go_num, hw.drew, hkr.drew, hrr.drew, hhr.drew, grownBy_drew hgr⟩
          case measure => simp [intOf]; omega
        · have hke : k = 64 := by omega
          rw [hke] at hV
          clear hke
          have g0 : w7.cell? ⟨w.heap.size, 0, none⟩ = some (.int .u32 (n32 v.a)) := hhr.cell 0
          have g1 : w7.cell? ⟨w.heap.size, 1, none⟩ = some (.int .u32 (n32 v.b)) := hhr.cell 1
          have g2 : w7.cell? ⟨w.heap.size, 2, none⟩ = some (.int .u32 (n32 v.c)) := hhr.cell 2
          have g3 : w7.cell? ⟨w.heap.size, 3, none⟩ = some (.int .u32 (n32 v.d)) := hhr.cell 3
          have g4 : w7.cell? ⟨w.heap.size, 4, none⟩ = some (.int .u32 (n32 v.e)) := hhr.cell 4
          have g5 : w7.cell? ⟨w.heap.size, 5, none⟩ = some (.int .u32 (n32 v.f)) := hhr.cell 5
          have g6 : w7.cell? ⟨w.heap.size, 6, none⟩ = some (.int .u32 (n32 v.g)) := hhr.cell 6
          have g7 : w7.cell? ⟨w.heap.size, 7, none⟩ = some (.int .u32 (n32 v.h)) := hhr.cell 7
          have HV := Lib.hid hV
          have c0 : w7.cell? ⟨w1.heap.size, 0, none⟩ = some (.int .u32 0) := hrr.cell 0
          have f0 := hrr.frozen 0
          have c1 : w7.cell? ⟨w1.heap.size, 1, none⟩ = some (.int .u32 0) := hrr.cell 1
          have f1 := hrr.frozen 1
          have c2 : w7.cell? ⟨w1.heap.size, 2, none⟩ = some (.int .u32 0) := hrr.cell 2
          have f2 := hrr.frozen 2
          have c3 : w7.cell? ⟨w1.heap.size, 3, none⟩ = some (.int .u32 0) := hrr.cell 3
          have f3 := hrr.frozen 3
          have c4 : w7.cell? ⟨w1.heap.size, 4, none⟩ = some (.int .u32 0) := hrr.cell 4
          have f4 := hrr.frozen 4
          have c5 : w7.cell? ⟨w1.heap.size, 5, none⟩ = some (.int .u32 0) := hrr.cell 5
          have f5 := hrr.frozen 5
          have c6 : w7.cell? ⟨w1.heap.size, 6, none⟩ = some (.int .u32 0) := hrr.cell 6
          have f6 := hrr.frozen 6
          have c7 : w7.cell? ⟨w1.heap.size, 7, none⟩ = some (.int .u32 0) := hrr.cell 7
          have f7 := hrr.frozen 7
          have HRR := Lib.hid hrr
          clear hV hw hkr hhr hrr wx wn
          go_wp2
          have hrr := HRR.out
          have hrow : Row _ w1.heap.size 90 (c32 (wordsOf (addV v V))) := ((((((((hrr.set 0 _).set 1 _).set 2 _).set 3 _).set 4 _).set 5 _).set 6 _).set 7 _)
          refine bodyPost_ret (v := .agg (c32 (wordsOf (addV v V))).toArray) (results_cell_row rfl _ _ w1.heap.size _ _ _ _ rfl hrow Try.underlying90 rfl (by kernel_rfl)) rfl ⟨by rw [HV.out]; rfl, ?_⟩
          repeat (refine grownBy_set ?_ (.inl (by simp; omega)) _)
          exact hgr
end Go.Proofs.Ytpohjldhbaalbaa
