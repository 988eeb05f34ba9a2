/- The walk of the law ChainRecovers. -/
import Derived.Test.YtfaekebglijebaaRRecov
import Derived.Test.YtfaekebglijebaaToFrom
import Derived.Test.YtfaekebglijebaaAwake4
import Derived.Test.YtfaekebglijebaaWf
import Derived.Test.YtfaekebglijebaaMix3
import Derived.Test.YtfaekebglijebaaPut
namespace Go.Proofs.Ytfaekebglijebaa
open Go.RowKit
set_option linter.unusedVariables false

theorem chunk_at {W : World} {bk off : Nat} {b : List UInt8} (h : BytesAt W bk off b) (r n : Nat) (hn : b.length = n * 32) (hr : r < n) :
    ∀ j v, (c8 (chunk32 b r))[j]? = some v → W.cell? ((⟨bk, off + r * 32, none⟩ : Addr).add j) = some v := by
  intro j v hv
  have hj : j < 32 := by have := (List.getElem?_eq_some_iff.1 hv).1; rw [c8_length] at this; unfold chunk32 at this; simp at this; omega
  have hl : r * 32 + j < b.length := by rw [hn]; omega
  rw [addr_add, Nat.add_assoc, h (r * 32 + j) hl, ← c8_get _ _ hl, ← hv, ← c8_chunk, List.getElem?_take, if_pos hj, List.getElem?_drop]
theorem add8 (y : UInt8) (q : Nat) : (n8 y + (q : Int)) % 256 = n8 (y + UInt8.ofNat q) := by
  unfold n8; rw [UInt8.toNat_add]; simp

set_option maxRecDepth 100000 in
set_option maxHeartbeats 8000000 in
theorem recovers_core (w : World) (key : Int) (m : List UInt8) (A : Option Addr) (n c : Nat) (b : List UInt8) (HN : Hid (b.length = n * 32)) (HB : Hid (Bytes w A b)) (HNC : Hid (n ≤ c)) (HNB : Hid (n < 281474976710656)) (HM : Hid (m.length = 32)) 
    (c2 : ∀ l W, l.length = 2144 → Calls Try.prog 20 #[.agg (c8 l).toArray] W fun e w' => e = .returned (.agg (c8 l).toArray) ∧ W.grownBy w' none)
    (c3 : ∀ l, l.length = 2144 → ∃ U : List UInt8, U.length = 32 ∧ (∀ W, Calls Try.prog 19 #[.int .u32 key, .agg (c8 m).toArray, .agg (c8 l).toArray] W fun e w' => e = .returned (.agg (c8 U).toArray) ∧ W.grownBy w' none) ∧
      (∀ W, Calls Try.prog 21 #[.int .u32 key, .agg (c8 m).toArray, .agg (c8 l).toArray] W fun e w' => e = .returned (.agg (c8 U).toArray) ∧ W.grownBy w' none) ∧
      (∀ W : World, (Op.equalIn 10000 24 (.agg (c8 U).toArray) (.agg (c8 U).toArray)).run Try.prog W = .ok true W)) :
    Calls Try.prog 7 #[.int .u32 key, .agg (c8 m).toArray, .slice A n c] w fun e w' => e = .returned (.bool true) ∧ w.grownBy w' none := by
  have IM := Lib.hid (info_a32 m HM.out)
  have Z0 := Lib.hid (show z2144.length = 2144 by simp [z2144])
  have n0 : (0 : Int) ≤ (n : Int) := by omega
  go_enter Try.func7, Try.ntmps7
  go_wp2_with (refine wp_box (o := ⟨some 4, _, _, _, _, _⟩) rfl 22 (.tmp 1) rfl (c8 m) rfl ?_)
  intro w1 hr hg hz
  clear hz
  have hS1 := ((Own.start w)).new hr hg
  clear hr hg
  go_wp2_with (refine wp_alloc (o := ⟨some 7, _, _, _, _, _⟩) rfl 45 rfl _ alloc_f32 ?_)
  intro w2 hr hg hz
  clear hz
  have hS2 := hS1.new hr hg
  clear hr hg
  clear hS1
  go_wp2
  go_loopw [9] (fun iv wr => ∃ k : Nat, k ≤ 67 ∧ iv = .int .i64 (k : Int) ∧ ∃ l : List UInt8, l.length = 2144 ∧ Own w wr [rowE w1.heap.size 45 (c8 l), rowE w.heap.size 22 (c8 m)]) (fun iv _ => 67 - (intOf iv).toNat)
  case atStart => exact ⟨0, by omega, rfl, z2144, Z0.out, hS2⟩
  case round =>
    clear hS2
    obtain ⟨k, hk, rfl, l, hl, hS⟩ := hrel
    have HL := Lib.hid hl
    clear hl
    by_cases hlt : k < 67
    · have q1 : (k : Int) < 67 := by omega
      have HK := Lib.hid (show k < 67 from hlt)
      by_cases h0 : n = 0
      · subst h0
        clear hlt hk
        go_wp2
        go_roundw
        case rel => exact ⟨k + 1, by have := HK.out; omega, by go_num, l, HL.out, hS⟩
        case measure => simp [intOf] <;> omega
      · have t0 : (0 : Int) < (n : Int) := by omega
        obtain ⟨bk, off, rfl, hat⟩ := HB.out (by rw [HN.out]; omega)
        obtain ⟨r, hr⟩ : ∃ r, r = k % n := ⟨_, rfl⟩
        obtain ⟨q, hq⟩ : ∃ q, q = k / n := ⟨_, rfl⟩
        have hrn : r < n := by rw [hr]; exact Nat.mod_lt _ (by omega)
        have t0' : 0 < n := by omega
        have t4' : ¬ n = 0 := by omega
        have t1' : (k : Int) % (n : Int) = (r : Int) := by rw [hr]; simp
        have t2' : (k : Int) / (n : Int) = (q : Int) := by rw [hq]; simp
        have t1 : ((k : Int)).tmod (n : Int) = (r : Int) := by rw [hr]; simp [Int.tmod_eq_emod_of_nonneg]
        have t2 : ((k : Int)).tdiv (n : Int) = (q : Int) := by rw [hq]; simp [Int.tdiv_eq_ediv_of_nonneg]
        have t3 : (r : Int) < (n : Int) := by omega
        have t4 : ¬ (n : Int) = 0 := by omega
        have t5 : (q : Int) < 67 := by have := Nat.div_le_self k n; omega
        have t6 : (0 : Int) ≤ (q : Int) := by omega
        have t7 : (0 : Int) ≤ (r : Int) := by omega
        have hcl := chunk_at (fun j hj => hS.cell (hat j hj)) r n HN.out hrn
        have hXl := chunk32_length b r n (by rw [HN.out]; omega) hrn
        obtain ⟨X, hX⟩ : ∃ X, X = chunk32 b r := ⟨_, rfl⟩
        rw [← hX] at hcl hXl
        obtain ⟨l2, hl2⟩ : ∃ l2, l2 = splice l (k * 32) X := ⟨_, rfl⟩
        have HST := Lib.hid (show splice (c8 l) (k * 32) (c8 X) = c8 l2 by rw [splice_c8, hl2])
        have HL2 := Lib.hid (show l2.length = 2144 by rw [hl2, length_splice _ _ _ (by rw [HL.out, hXl]; omega), HL.out])
        have HFL := Lib.hid (show k * 32 + (c8 X).length ≤ (c8 l).length by rw [c8_length, c8_length, HL.out, hXl]; omega)
        have HCL := Lib.hid hcl
        have HXA := Lib.hid (info_a32 X hXl)
        clear hX hl2 hcl hXl hr hq hrn hat hlt hk h0
        go_wp2_with (first | (refine wp_load rfl 22 (.tmp 21) rfl Try.underlying22 rfl ⟨bk, off + r * 32, none⟩ rfl (c8 X) HXA.out HCL.out ?_) | (refine wp_storeAgg rfl 22 (.tmp 23) (.tmp 22) rfl w1.heap.size (k * 32) 45 (c8 l) (c8 X) rfl rfl (hS.row 0 rfl) HXA.out HFL.out (one8 _) ?_))
        intro w5 hr hg hz
        clear hz
        rw [HST.out] at hr
        have hS5 := hS.setRow 0 rfl hr hg
        clear hS hr hg HCL
        go_wp2
        obtain ⟨y, hy⟩ : ∃ y, y = l2.getD (k * 32 + 5) 0 := ⟨_, rfl⟩
        have HY := Lib.hid (show (c8 l2)[k * 32 + 5]? = some (.int .u8 (n8 y)) by rw [hy]; exact c8_get l2 _ (by rw [HL2.out]; have := HK.out; omega))
        have e1 := add8 y q
        clear hy
        have b1 := n8_lo y
        have b2 := n8_hi y
        have hS6 := hS5.drew
        clear hS5
        refine wp_region_mixC (fun W => Own w W _) (fun i => i != 12) [(0, true), (1, true), (2, true), (3, true), (4, true), (5, true), (6, true), (7, true), (8, true), (9, true), (10, false), (11, false), (12, false)] (by kernel_rfl) (by kernel_rfl) hS6 ?_
        iterate 3 (refine wpMix_step rfl (fun K hK => ?_); go_simp; (try go_bits); with_reducible refine hK _ ?_; clear hK K)
        refine wpMix_pureW _ rfl rfl (fun W hW => run_load_cell 5 (.tmp 26) rfl Try.underlying5 rfl ⟨w1.heap.size, (k * 32 + 5), none⟩ rfl _ (((hW.row 0 rfl).cell (k * 32 + 5)).trans HY.out)) ?_
        iterate 6 (refine wpMix_step rfl (fun K hK => ?_); go_simp; (try go_bits); with_reducible refine hK _ ?_; clear hK K)
        refine wpMix_loudW _ rfl rfl ?_
        go_wp2_with fail
        refine wpMix_next' (fun _ => hS6) ?_
        refine wpMix_loudW _ rfl rfl ?_
        go_wp2_with fail
        refine wpMix_next' (fun _ => hS6) ?_
        
        have f0 := (hS6.row 0 rfl).frozen (k * 32 + 5)
        have f1 := ((hS6.row 0 rfl).cell (k * 32 + 5)).trans HY.out
        have hS7 := hS6.set 0 rfl (k * 32 + 5) (.int .u8 (n8 (y + UInt8.ofNat q)))
        rw [c8_set] at hS7
        have HL3 := Lib.hid (show (l2.set (k * 32 + 5) (y + UInt8.ofNat q)).length = 2144 by rw [List.length_set]; exact HL2.out)
        obtain ⟨l3, hl3⟩ : ∃ l3, l3 = l2.set (k * 32 + 5) (y + UInt8.ofNat q) := ⟨_, rfl⟩
        rw [← hl3] at hS7 HL3
        clear hl3 hS6 HL2
        refine wpMix_loudW _ rfl rfl ?_
        go_wp2_with fail
        refine wpMix_next' (fun h => absurd h (by decide)) ?_
        unfold wpMix
        go_wp2
        go_roundw
        case rel => exact ⟨k + 1, by have := HK.out; omega, by go_num, l3, HL3.out, hS7⟩
        case measure => simp [intOf] <;> omega
    · obtain rfl : k = 67 := by omega
      obtain ⟨U, hUl, d1, d2, d3⟩ := c3 l HL.out
      have d4 := fun W => c2 l W HL.out
      have IL := Lib.hid (info_f32 l HL.out)
      clear hlt hk c2 c3 hUl
      go_wp2_with fail
      have hS6 := hS.drew
      clear hS
      refine wp_region_mixC (fun W => Own w W _) (fun _ => true) [(0, false), (1, true), (2, true), (3, true), (4, true), (7, true), (8, true), (9, true), (5, false), (6, false), (10, false), (11, true), (12, true), (13, false)] (by kernel_rfl) (by kernel_rfl) hS6 ?_
      refine wpMix_loudW _ rfl rfl ?_
      go_wp2_with fail
      refine (awake_any _).mono ?_
      rintro e w7 ⟨rfl, hg⟩
      have hS7 := hS6.call hg
      clear hg hS6
      go_wp2_with fail
      refine wpMix_next' (fun _ => hS7) ?_
      iterate 2 (refine wpMix_step rfl (fun K hK => ?_); go_simp; (try go_bits); with_reducible refine hK _ ?_; clear hK K)
      refine wpMix_pureW (.agg (c8 m).toArray) rfl rfl (fun W hW => run_load_op 22 (.tmp 4) rfl Try.underlying22 rfl ⟨w.heap.size, 0, none⟩ rfl _ IM.out (row_all (hW.row 1 rfl))) ?_
      refine wpMix_pureW (.agg (c8 l).toArray) rfl rfl (fun W hW => run_load_op 45 (.tmp 7) rfl Try.underlying45 rfl ⟨w1.heap.size, 0, none⟩ rfl _ IL.out (row_all (hW.row 0 rfl))) ?_
      iterate 1 (refine wpMix_step rfl (fun K hK => ?_); go_simp; (try go_bits); with_reducible refine hK _ ?_; clear hK K)
      refine wpMix_pureW (.agg (c8 m).toArray) rfl rfl (fun W hW => run_load_op 22 (.tmp 4) rfl Try.underlying22 rfl ⟨w.heap.size, 0, none⟩ rfl _ IM.out (row_all (hW.row 1 rfl))) ?_
      refine wpMix_pureW (.agg (c8 l).toArray) rfl rfl (fun W hW => run_load_op 45 (.tmp 7) rfl Try.underlying45 rfl ⟨w1.heap.size, 0, none⟩ rfl _ IL.out (row_all (hW.row 0 rfl))) ?_
      refine wpMix_loudW _ rfl rfl ?_
      go_wp2_with fail
      refine (d4 _).mono ?_
      rintro e w8 ⟨rfl, hg⟩
      have hS8 := hS7.call hg
      clear hg hS7
      go_wp2_with fail
      refine wpMix_next' (fun _ => hS8) ?_
      refine wpMix_loudW _ rfl rfl ?_
      go_wp2_with fail
      refine (d1 _).mono ?_
      rintro e w9 ⟨rfl, hg⟩
      have hS9 := hS8.call hg
      clear hg hS8
      go_wp2_with fail
      refine wpMix_next' (fun _ => hS9) ?_
      refine wpMix_loudW _ rfl rfl ?_
      go_wp2_with fail
      refine (d2 _).mono ?_
      rintro e wA ⟨rfl, hg⟩
      have hSA := hS9.call hg
      clear hg hS9
      go_wp2_with fail
      refine wpMix_next' (fun _ => hSA) ?_
      iterate 2 (refine wpMix_step rfl (fun K hK => ?_); go_simp; (try go_bits); with_reducible refine hK _ ?_; clear hK K)
      refine wpMix_loudW _ rfl rfl ?_
      go_wp2_with fail
      refine wpMix_next' (fun _ => hSA) ?_
      unfold wpMix
      go_wp2
      go_ret
      exact ⟨rfl, hSA.grown⟩
theorem walk_ChainRecovers (w : World) (key : Int) (wk : (Lit.int .u32 key).wf = true) (m : List UInt8) (hm : m.length = 32) (A : Option Addr) (n c : Nat) (b : List UInt8) (hn : b.length = n * 32) (hb : Bytes w A b) (hle : n ≤ c) (hr : c * 32 ≤ 140737488351232) :
    Calls Try.prog 7 #[.int .u32 key, .agg (c8 m).toArray, .slice A n c] w fun e w' => e = .returned (.bool true) ∧ w.grownBy w' none := by
  obtain ⟨k, rfl, hk⟩ := of_u32 wk
  refine recovers_core w k m A n c b (Lib.hid hn) (Lib.hid hb) (Lib.hid hle) (Lib.hid (by omega)) (Lib.hid hm) (fun l W hl => to_any l W hl) (fun l hl => ?_)
  have hU : (recoverL k m l).length = 32 := sha_length _
  exact ⟨recoverL k m l, hU, fun W => recover_any k m l W hm hl hk, fun W => rrecover_any k m l W hm hl hk, fun W => by rw [eq_dg W _ _ hU hU, decide_eq_true rfl]⟩
end Go.Proofs.Ytfaekebglijebaa
