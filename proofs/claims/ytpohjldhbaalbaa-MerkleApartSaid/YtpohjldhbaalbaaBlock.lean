/- The contract of the block function: the words behind a block of 64 bytes. -/
import Derived.Test.YtpohjldhbaalbaaBits
import Derived.Test.YtpohjldhbaalbaaMem
import Derived.StillTailTactics
import Derived.Deep.QuietTactic
import Derived.BigQuiet
namespace Go.Proofs.Ytpohjldhbaalbaa
set_option linter.unusedVariables false
set_option linter.unusedSimpArgs false
set_option linter.unusedSectionVars false
open Go.RowKit

def mixTo (u v : V8) (k : Nat) : List UInt32 := (wordsOf (addV u v)).take k ++ (wordsOf u).drop k
theorem mix_full (u v : V8) : mixTo u v 8 = wordsOf (addV u v) := by simp [mixTo, wordsOf]
theorem mix_cell (u v : V8) (tail : List Value) (k : Nat) (h : k < 8) : (c32 (mixTo u v k) ++ tail)[k]? = some (.int .u32 (n32 ((wordsOf u).getD k 0))) := by
  match k, h with
  | 0, _ | 1, _ | 2, _ | 3, _ | 4, _ | 5, _ | 6, _ | 7, _ => rfl
theorem mix_step (u v : V8) (tail : List Value) (k : Nat) (h : k < 8) :
    (c32 (mixTo u v k) ++ tail).set k (.int .u32 (n32 (add32 ((wordsOf u).getD k 0) ((wordsOf v).getD k 0)))) = c32 (mixTo u v (k + 1)) ++ tail := by
  match k, h with
  | 0, _ | 1, _ | 2, _ | 3, _ | 4, _ | 5, _ | 6, _ | 7, _ => rfl

theorem sched_low (p : List UInt8) (k : Nat) (x : UInt32) (hk : k < 16) (hx : wordAt p k = x) : (c32 (sched p k)).set k (.int .u32 (n32 x)) = c32 (sched p (k + 1)) := by
  rw [c32_set, sched, schedStep, if_pos hk, hx]
theorem sched_high (p : List UInt8) (k : Nat) (x : UInt32) (hk : 16 ≤ k) (hx : nextW (sched p k) k = x) : (c32 (sched p k)).set k (.int .u32 (n32 x)) = c32 (sched p (k + 1)) := by
  rw [c32_set, sched, schedStep, if_neg (by omega), hx]

set_option maxRecDepth 100000 in
set_option maxHeartbeats 4000000 in
theorem block_any (g b off n c kb : Nat) (tail : List Value) (p : List UInt8) (w : World) (hp : BytesAt w b off p) (hpl : p.length = 64) (hn : 64 ≤ n) (hnm : n ≤ 140737488351232)
    (v : V8) (hg : Row w g 100 (c32 (wordsOf v) ++ tail)) (hkr : Row w kb 101 (c32 kList)) :
    Calls Try.prog 67 #[.pointer (some ⟨g, 0, none⟩), .slice (some ⟨b, off, none⟩) n c, .pointer (some ⟨kb, 0, none⟩)] w
      fun e w' => e = .returned (.tuple #[]) ∧ w.grownBy w' (some g) ∧ Row w' g 100 (c32 (wordsOf (compress v p)) ++ tail) := by
  go_enter Try.func67, Try.ntmps67
  go_wp2
  have hz : (List.replicate 64 (Value.int .u32 0)) = c32 (sched p 0) := by kernel_rfl
  go_loopw [16] (fun i wr => ∃ k : Nat, k ≤ 16 ∧ i = .int .i64 k ∧ Row wr w.heap.size 101 (c32 (sched p k)) ∧ w.grownBy wr none) (fun i _ => 16 - (intOf i).toNat)
  case atStart => exact ⟨0, by omega, rfl, Row.new w _ (c32 (sched p 0)), grownBy_alloc' (grownBy_refl _ _) _⟩
  case round =>
    obtain ⟨k, hk, rfl, hw, hgr⟩ := hrel
    by_cases hlt : k < 16
    · have c0 := (hw.cell k).trans (c32_get _ k (by rw [sched_length]; omega))
      have f0 := hw.frozen k
      have p0 := hgr.cell (hp (4 * k) (by omega)) (by simp)
      have p1 := hgr.cell (hp (4 * k + 1) (by omega)) (by simp)
      have p2 := hgr.cell (hp (4 * k + 2) (by omega)) (by simp)
      have p3 := hgr.cell (hp (4 * k + 3) (by omega)) (by simp)
      have q0 : 0 ≤ 4 * (k : Int) := by omega
      have q1 : 4 * (k : Int) < n := by omega
      have q2 : 0 ≤ 4 * (k : Int) + 1 := by omega
      have q3 : 4 * (k : Int) + 1 < n := by omega
      have q4 : 0 ≤ 4 * (k : Int) + 2 := by omega
      have q5 : 4 * (k : Int) + 2 < n := by omega
      have q6 : 0 ≤ 4 * (k : Int) + 3 := by omega
      have q7 : 4 * (k : Int) + 3 < n := by omega
      have q8 : (k : Int) < 64 := by omega
      obtain ⟨b0, hb0⟩ : ∃ x, x = p.getD (4 * k) 0 := ⟨_, rfl⟩
      obtain ⟨b1, hb1⟩ : ∃ x, x = p.getD (4 * k + 1) 0 := ⟨_, rfl⟩
      obtain ⟨b2, hb2⟩ : ∃ x, x = p.getD (4 * k + 2) 0 := ⟨_, rfl⟩
      obtain ⟨b3, hb3⟩ : ∃ x, x = p.getD (4 * k + 3) 0 := ⟨_, rfl⟩
      rw [← hb0] at p0
      rw [← hb1] at p1
      rw [← hb2] at p2
      rw [← hb3] at p3
      have HW : Hid (wordAt p k = be32 b0 b1 b2 b3) := by show _ = _; rw [hb0, hb1, hb2, hb3]; rfl
      have hbe := w_be32 b0 b1 b2 b3
      have l0 := n8_lo b0
      have l1 := n8_lo b1
      have l2 := n8_lo b2
      have l3 := n8_lo b3
      have m0 := n8_hi b0
      have m1 := n8_hi b1
      have m2 := n8_hi b2
      have m3 := n8_hi b3
      clear hz hg hk hp hb0 hb1 hb2 hb3
      go_wp2
      refine wp_region_still_tail 35 (by kernel_rfl) (by kernel_rfl) ?_
      simp only [List.take_succ_cons, List.take_zero, List.drop_succ_cons, List.drop_zero]
      iterate 35 (refine wpStill_step (fun K hK => ?_); go_simp; (try go_bits); refine hK _ ?_; clear hK K)
      refine wpStill_nil ?_
      change wpList _ _ _ _ _ wr.drew
      go_wp2
      go_roundw
      case rel =>
        refine ⟨k + 1, by omega, by go_num, ?_, grownBy_drew (grownBy_set hgr (.inl (Nat.le_refl _)) _)⟩
        rw [← sched_low p k _ hlt HW.out]
        exact (hw.set k _).drew
      case measure => simp [intOf]; omega
    · have hke : k = 16 := by omega
      rw [hke] at hw
      clear hke
      clear hz
      go_wp2
      have wx := w_xor32
      have wa := w_add32
      obtain ⟨wb, hwb⟩ : ∃ x : World, x = wr := ⟨_, rfl⟩
      subst hwb
      go_loopw [8] (fun i wr => ∃ k : Nat, 16 ≤ k ∧ k ≤ 64 ∧ i = .int .i64 k ∧ Row wr w.heap.size 101 (c32 (sched p k)) ∧ w.grownBy wr none) (fun i _ => 64 - (intOf i).toNat)
      case atStart => exact ⟨16, by omega, by omega, rfl, hw, hgr⟩
      case round =>
        clear hw hgr
        obtain ⟨k, hk16, hk64, rfl, hw, hgr⟩ := hrel
        by_cases hlt : k < 64
        · have hlen := sched_length p k
          have c0 := (hw.cell k).trans (c32_get _ k (by omega))
          have f0 := hw.frozen k
          have c16 := (hw.cell (k - 16)).trans (c32_get _ (k - 16) (by omega))
          have c15 := (hw.cell (k - 15)).trans (c32_get _ (k - 15) (by omega))
          have c7 := (hw.cell (k - 7)).trans (c32_get _ (k - 7) (by omega))
          have c2 := (hw.cell (k - 2)).trans (c32_get _ (k - 2) (by omega))
          obtain ⟨x16, h16⟩ : ∃ x, x = (sched p k).getD (k - 16) 0 := ⟨_, rfl⟩
          obtain ⟨x15, h15⟩ : ∃ x, x = (sched p k).getD (k - 15) 0 := ⟨_, rfl⟩
          obtain ⟨x7, h7⟩ : ∃ x, x = (sched p k).getD (k - 7) 0 := ⟨_, rfl⟩
          obtain ⟨x2, h2⟩ : ∃ x, x = (sched p k).getD (k - 2) 0 := ⟨_, rfl⟩
          rw [← h16] at c16
          rw [← h15] at c15
          rw [← h7] at c7
          rw [← h2] at c2
          have HW : Hid (nextW (sched p k) k = add32 (add32 (add32 x16 (sg0 x15)) x7) (sg1 x2)) := by show _ = _; rw [h16, h15, h7, h2]; rfl
          clear h16 h15 h7 h2 hlen
          have q16 : (16 : Int) ≤ k := by omega
          have q15 : (15 : Int) ≤ k := by omega
          have q7 : (7 : Int) ≤ k := by omega
          have q2 : (2 : Int) ≤ k := by omega
          have r0 : (k : Int) < 64 := by omega
          have r16 : (k : Int) - 16 < 64 := by omega
          have r15 : (k : Int) - 15 < 64 := by omega
          have r7 : (k : Int) - 7 < 64 := by omega
          have r2 : (k : Int) - 2 < 64 := by omega
          have s3 := w_shr3 x15
          have s10 := w_shr10 x2
          clear hg hk hp
          go_wp2
          refine wp_region_still_lit (by kernel_rfl) (by kernel_rfl) ?_
          iterate 10 (refine wpStill_step (fun K hK => ?_); go_simp; (try go_bits); refine hK _ ?_; clear hK K)
          refine wpStill_nil ?_
          go_wp2
          refine wp_region_still_tail 29 (by kernel_rfl) (by kernel_rfl) ?_
          simp only [List.take_succ_cons, List.take_zero, List.drop_succ_cons, List.drop_zero]
          change wpStill _ _ wr.drew.drew _ _ _
          iterate 29 (refine wpStill_step (fun K hK => ?_); go_simp; (try go_bits); first | (with_reducible refine hK _ ?_; clear hK K) | (apply Exists.intro; apply And.intro; exact still_of (rot_c _ _ _ (by decide)); refine hK _ ?_; clear hK K))
          refine wpStill_nil ?_
          change wpList _ _ _ _ _ wr.drew.drew
          go_wp2
          go_roundw
          case rel =>
            refine ⟨k + 1, by omega, by omega, by go_num, ?_, grownBy_drew (grownBy_drew (grownBy_set hgr (.inl (Nat.le_refl _)) _))⟩
            rw [← sched_high p k _ hk16 HW.out]
            exact (hw.set k _).drew.drew
          case measure => simp [intOf]; omega
        · have hke : k = 64 := by omega
          rw [hke] at hw
          clear hke
          have hg1 := hg.grown hgr (by simp)
          have hk1 := hkr.grown hgr (by simp)
          have hgw : g < w.heap.size := hg.lt
          have hkw : kb < w.heap.size := hkr.lt
          have g0 : wr.cell? ⟨g, 0, none⟩ = some (.int .u32 (n32 v.a)) := hg1.cell 0
          have g1 : wr.cell? ⟨g, 1, none⟩ = some (.int .u32 (n32 v.b)) := hg1.cell 1
          have g2 : wr.cell? ⟨g, 2, none⟩ = some (.int .u32 (n32 v.c)) := hg1.cell 2
          have g3 : wr.cell? ⟨g, 3, none⟩ = some (.int .u32 (n32 v.d)) := hg1.cell 3
          have g4 : wr.cell? ⟨g, 4, none⟩ = some (.int .u32 (n32 v.e)) := hg1.cell 4
          have g5 : wr.cell? ⟨g, 5, none⟩ = some (.int .u32 (n32 v.f)) := hg1.cell 5
          have g6 : wr.cell? ⟨g, 6, none⟩ = some (.int .u32 (n32 v.g)) := hg1.cell 6
          have g7 : wr.cell? ⟨g, 7, none⟩ = some (.int .u32 (n32 v.h)) := hg1.cell 7
          clear hp hg hk
          go_wp2
          clear g0 g1 g2 g3 g4 g5 g6 g7
          have wn := w_and32
          have wan := w_andNot32
          go_loopw [100] (fun i w3 => ∃ k : Nat, k ≤ 64 ∧ i = .int .i64 k ∧ Row w3 wr.heap.size 90 (c32 (wordsOf (roundsTo (sched p 64) v k))) ∧ wr.grownBy w3 none) (fun i _ => 64 - (intOf i).toNat)
          case atStart => exact ⟨0, by omega, rfl, Row.new wr _ (c32 (wordsOf v)), grownBy_alloc' (grownBy_refl _ _) _⟩
          case round =>
            rename World => w3
            obtain ⟨k, hk64, rfl, hv, hgv⟩ := hrel
            by_cases hlt : k < 64
            · have kc := ((hk1.grown hgv (by simp)).cell k).trans (c32_get _ k (by show k < 64; exact hlt))
              have wc := ((hw.grown hgv (by simp)).cell k).trans (c32_get _ k (by rw [sched_length]; exact hlt))
              obtain ⟨V, hV⟩ : ∃ x, x = roundsTo (sched p 64) v k := ⟨_, rfl⟩
              obtain ⟨kk, hkk⟩ : ∃ x, x = kAt k := ⟨_, rfl⟩
              obtain ⟨ww, hww⟩ : ∃ x, x = (sched p 64).getD k 0 := ⟨_, rfl⟩
              rw [← hV] at hv
              rw [← hww] at wc
              rw [show kList.getD k 0 = kk from hkk.symm] at kc
              have HX : Hid (roundsTo (sched p 64) v (k + 1) = roundOf V kk ww) := by show _ = _; rw [hV, hkk, hww]; rfl
              clear hV hkk hww
              have c0 : w3.cell? ⟨wr.heap.size, 0, none⟩ = some (.int .u32 (n32 V.a)) := hv.cell 0
              have c1 : w3.cell? ⟨wr.heap.size, 1, none⟩ = some (.int .u32 (n32 V.b)) := hv.cell 1
              have c2 : w3.cell? ⟨wr.heap.size, 2, none⟩ = some (.int .u32 (n32 V.c)) := hv.cell 2
              have c4 : w3.cell? ⟨wr.heap.size, 4, none⟩ = some (.int .u32 (n32 V.e)) := hv.cell 4
              have c5 : w3.cell? ⟨wr.heap.size, 5, none⟩ = some (.int .u32 (n32 V.f)) := hv.cell 5
              have c6 : w3.cell? ⟨wr.heap.size, 6, none⟩ = some (.int .u32 (n32 V.g)) := hv.cell 6
              have c7 : w3.cell? ⟨wr.heap.size, 7, none⟩ = some (.int .u32 (n32 V.h)) := hv.cell 7
              have r0 : (k : Int) < 64 := by omega
              have hz3 := hgv.size
              have hv' := hv
              have hgv' := hgv
              clear hv hgv hw hgr hg1 hk1
              go_wp2
              refine wp_region_still_lit (by kernel_rfl) (by kernel_rfl) ?_
              change wpStill _ _ w3.drew _ _ _
              iterate 37 (refine wpStill_step (fun K hK => ?_); go_simp; (try go_bits); first | (with_reducible refine hK _ ?_; clear hK K) | (apply Exists.intro; apply And.intro; exact still_of (rot_c _ _ _ (by decide)); refine hK _ ?_; clear hK K))
              refine wpStill_nil ?_
              go_wp2
              refine wp_region_still_lit (by kernel_rfl) (by kernel_rfl) ?_
              change wpStill _ _ w3.drew.drew _ _ _
              iterate 30 (refine wpStill_step (fun K hK => ?_); go_simp; (try go_bits); first | (with_reducible refine hK _ ?_; clear hK K) | (apply Exists.intro; apply And.intro; exact still_of (rot_c _ _ _ (by decide)); refine hK _ ?_; clear hK K))
              refine wpStill_nil ?_
              go_wp2
              refine wp_region_still_tail 2 (by kernel_rfl) (by kernel_rfl) ?_
              simp only [List.take_succ_cons, List.take_zero, List.drop_succ_cons, List.drop_zero]
              change wpStill _ _ w3.drew.drew.drew _ _ _
              iterate 2 (refine wpStill_step (fun K hK => ?_); go_simp; (try go_bits); with_reducible refine hK _ ?_; clear hK K)
              refine wpStill_nil ?_
              change wpList _ _ _ _ _ w3.drew.drew.drew
              refine wp_copy rfl (.tmp 168) (.tmp 169) 110 110 rfl 89 Try.underlying110 (by kernel_rfl) _ _ _ _ _ _ rfl rfl wr.heap.size 1 (c32 (wordsOf V)) 90 hv'.drew.drew.drew
                (c32 [V.a, V.b, V.c, V.d, V.e, V.f, V.g]) rfl ?_ (by simp [wordsOf]) (by simp [c32, v32, Value.oneCell']) ?_
              · intro _
                refine ⟨rfl, _, rfl, ?_⟩
                intro j u hu
                match j, hu with
                | 0, hu => simp [c32, v32] at hu; subst hu; exact c0
                | 1, hu => simp [c32, v32] at hu; subst hu; exact c1
                | 2, hu => simp [c32, v32] at hu; subst hu; exact c2
                | 3, hu => simp [c32, v32] at hu; subst hu; exact hv'.cell 3
                | 4, hu => simp [c32, v32] at hu; subst hu; exact c4
                | 5, hu => simp [c32, v32] at hu; subst hu; exact c5
                | 6, hu => simp [c32, v32] at hu; subst hu; exact c6
                | j + 7, hu => simp [c32, v32] at hu
              · intro w4 hv4 hg4
                have hg5 := grownBy_in (grownBy_drew (grownBy_drew (grownBy_drew hgv'))) hg4 (Nat.le_refl _)
                have hv5 : Row w4 wr.heap.size 90 (c32 [V.a, V.a, V.b, V.c, V.d, V.e, V.f, V.g]) := hv4
                clear c0 c1 c2 c4 c5 c6 c7 hv4 hg4 hv' hgv'
                have d0 : w4.cell? ⟨wr.heap.size, 0, none⟩ = some (.int .u32 (n32 V.a)) := hv5.cell 0
                have d4 : w4.cell? ⟨wr.heap.size, 4, none⟩ = some (.int .u32 (n32 V.d)) := hv5.cell 4
                have f0 := hv5.frozen 0
                have f4 := hv5.frozen 4
                go_wp2
                go_roundw
                case rel =>
                  refine ⟨k + 1, by omega, by go_num, ?_, grownBy_set (grownBy_set hg5 (.inl (Nat.le_refl _)) _) (.inl (Nat.le_refl _)) _⟩
                  rw [HX.out]
                  exact (hv5.set 4 _).set 0 _
                case measure => simp [intOf]; omega
            · have hke : k = 64 := by omega
              rw [hke] at hv
              clear hke
              have hg2 := hg1.grown hgv (by simp)
              have hgw2 := hgr.size
              obtain ⟨V, hV⟩ : ∃ x, x = roundsTo (sched p 64) v 64 := ⟨_, rfl⟩
              rw [← hV] at hv
              have HV : Hid (V = roundsTo (sched p 64) v 64) := hV
              have hv' := grownBy_trans hgr hgv
              clear hV hw hk1 hg1 hgr
              go_wp2
              go_loopw [181] (fun i w5 => ∃ k : Nat, k ≤ 8 ∧ i = .int .i64 k ∧ Row w5 g 100 (c32 (mixTo v V k) ++ tail) ∧ Row w5 wr.heap.size 90 (c32 (wordsOf V)) ∧ w.grownBy w5 (some g)) (fun i _ => 8 - (intOf i).toNat)
              case atStart => exact ⟨0, by omega, rfl, hg2, hv, grownBy_weaken hv' _⟩
              case round =>
                clear hv hv' hgv hg2
                obtain ⟨k, hk8, rfl, hg3, hv3, hgr3⟩ := hrel
                rename World => w5
                by_cases hlt : k < 8
                · have c0 := (hg3.cell k).trans (mix_cell v V tail k hlt)
                  have f0 := hg3.frozen k
                  have d0 := (hv3.cell k).trans (c32_get _ k (by simpa [wordsOf] using hlt))
                  have hne : g ≠ wr.heap.size := by omega
                  obtain ⟨x, hx⟩ : ∃ x, x = (wordsOf v).getD k 0 := ⟨_, rfl⟩
                  obtain ⟨y, hy⟩ : ∃ x, x = (wordsOf V).getD k 0 := ⟨_, rfl⟩
                  rw [← hx] at c0
                  rw [← hy] at d0
                  have HM := mix_step v V tail k hlt
                  rw [← hx, ← hy] at HM
                  have HM' : Hid ((c32 (mixTo v V k) ++ tail).set k (.int .u32 (n32 (add32 x y))) = c32 (mixTo v V (k + 1)) ++ tail) := HM
                  clear hx hy HM
                  have r0 : (k : Int) < 8 := by omega
                  go_wp2
                  refine wp_region_still_tail 13 (by kernel_rfl) (by kernel_rfl) ?_
                  simp only [List.take_succ_cons, List.take_zero, List.drop_succ_cons, List.drop_zero]
                  change wpStill _ _ w5.drew _ _ _
                  iterate 13 (refine wpStill_step (fun K hK => ?_); go_simp; (try go_bits); with_reducible refine hK _ ?_; clear hK K)
                  refine wpStill_nil ?_
                  change wpList _ _ _ _ _ w5.drew
                  go_wp2
                  go_roundw
                  case rel =>
                    refine ⟨k + 1, by omega, by go_num, ?_, (hv3.far (by simpa using hne.symm) _).drew, grownBy_drew (grownBy_set hgr3 (.inr rfl) _)⟩
                    rw [← HM'.out]
                    exact (hg3.set k _).drew
                  case measure => simp [intOf]; omega
                · have hke : k = 8 := by omega
                  rw [hke] at hg3
                  clear hke
                  go_wp2
                  go_end0
                  refine ⟨rfl, hgr3, ?_⟩
                  rw [mix_full] at hg3
                  rw [show compress v p = addV v V from by rw [HV.out]; rfl]
                  exact hg3
end Go.Proofs.Ytpohjldhbaalbaa
