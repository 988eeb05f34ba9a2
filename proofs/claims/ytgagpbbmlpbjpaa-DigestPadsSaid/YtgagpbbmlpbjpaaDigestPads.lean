/- The walk of the law DigestPads. -/
import Derived.Test.YtgagpbbmlpbjpaaDigestSums
import Derived.Test.YtgagpbbmlpbjpaaWords2
namespace Go.Proofs.Ytgagpbbmlpbjpaa
open Go.RowKit

theorem u8_mod (z : Int) : ∃ u : UInt8, z % 256 = n8 u := by
  refine ⟨UInt8.ofNat (z % 256).toNat, ?_⟩
  unfold n8; rw [UInt8.toNat_ofNat']; omega
theorem u64_rem (n : Int) : ∃ N : Nat, N < 300 ∧ wrap64 ((IntKind.u64.wrap n).tmod 300) = (N : Int) := by
  have h0 : 0 ≤ IntKind.u64.wrap n := by rw [IntKind.wrap_u64]; omega
  refine ⟨(IntKind.u64.wrap n % 300).toNat, by omega, ?_⟩
  rw [Int.tmod_eq_emod_of_nonneg h0, IntWalk.wrap64_in _ ⟨by omega, by omega⟩]
  omega

set_option maxRecDepth 100000 in
set_option maxHeartbeats 2000000 in
theorem walk_DigestPads (w : World) (n : Int) (wn : (Lit.int .i64 n).wf = true) (x : Int) (wx : (Lit.int .u8 x).wf = true) :
    Calls Try.prog 4 #[.int .i64 n, .int .u8 x] w fun e w' => e = .returned (.bool true) ∧ w.grownBy w' none := by
  obtain ⟨N, hN, hn⟩ := u64_rem n
  have hN0 : (0 : Int) ≤ N := by omega
  have hN1 : (N : Int) < 300 := by omega
  have HN := Lib.hid hn
  clear hn
  go_enter Try.func4, Try.ntmps4
  go_wp2_with (refine wp_make rfl 22 (.tmp 17) (.tmp 17) rfl 5 (.int .u8 0) 1 Try.underlying22 (by kernel_rfl) rfl N N (congrArg (Value.int IntKind.i64) HN.out) (congrArg (Value.int IntKind.i64) HN.out) (by omega) (by omega) (by omega) ?_)
  intro w1 hr hg hz
  clear hz
  have hS := (Own.start w).new hr hg
  clear hr hg HN wn wx
  go_wp2
  go_loopw [21] (fun iv wr => ∃ (k : Nat) (l : List UInt8), k ≤ N ∧ iv = .int .i64 k ∧ l.length = N ∧ Own w wr [rowE w.heap.size 5 (c8 l)]) (fun iv _ => N - (intOf iv).toNat)
  case atStart => exact ⟨0, List.replicate N 0, by omega, rfl, by simp, by simpa [c8, v8, n8] using hS⟩
  case round =>
    clear hS
    obtain ⟨k, l, hk, rfl, hl, hS⟩ := hrel
    have HL := Lib.hid hl
    clear hl
    by_cases hlt : k < N
    · have c0 := ((hS.row 0 rfl).cell k).trans (c8_get l k (by rw [HL.out]; exact hlt))
      have f0 := (hS.row 0 rfl).frozen k
      have q1 : (k : Int) < N := by omega
      obtain ⟨u, hu⟩ := u8_mod (x + (k : Int) / 64)
      go_wp2
      go_roundw
      case rel => exact ⟨k + 1, l.set k u, by omega, by go_num, by rw [List.length_set, HL.out], by have := hS.set 0 rfl k (.int .u8 (n8 u)); rw [c8_set] at this; exact this⟩
      case measure => simp [intOf]; omega
    · have hke : N = k := by omega
      clear hlt
      subst hke
      go_wp2_with fail
      refine (words_any 8 false _ (by omega) primes8.1 primes8.2).mono ?_
      rintro e w2 ⟨v2, rfl, ho, hg⟩
      have hS2 := hS.made ho hg
      rw [words8] at hS2
      clear ho hg hS
      go_wp2_with fail
      refine (words_any 64 true _ (by omega) primes64.1 primes64.2).mono ?_
      rintro e w3 ⟨v3, rfl, ho, hg⟩
      have hS3 := hS2.made ho hg
      rw [words64] at hS3
      clear ho hg hS2
      go_wp2_with fail
      refine (begin_any _).mono ?_
      rintro e w4 ⟨rfl, hg⟩
      have hS4 := hS3.call hg
      clear hg hS3
      go_wp2
      go_loopw [36] (fun iv wr => ∃ k : Nat, k ≤ 8 ∧ iv = .int .i64 k ∧ Own w wr [ownsE w2.heap.size 32 1 v3 64 (c32 kList), ownsE _ 32 1 v2 8 (c32 (wordsOf begin0)), rowE w.heap.size 5 (c8 l)]) (fun iv _ => 8 - (intOf iv).toNat)
      case atStart => exact ⟨0, by omega, rfl, hS4⟩
      case round =>
        clear hS4
        obtain ⟨k, hk, rfl, hS⟩ := hrel
        by_cases hlt : k < 8
        · obtain ⟨g, cap, hv, _, _, hnc, hcm, hcell⟩ := own_form (hS.owns 1 rfl) (by omega)
          obtain ⟨y, hy⟩ : ∃ y, y = (wordsOf begin0).getD k 0 := ⟨_, rfl⟩
          have c0 := hcell k _ (c32_get (wordsOf begin0) k (by simp [wordsOf]; exact hlt))
          rw [← hy] at c0
          have hix : ∀ W, (Instr.index 33 (.agg (c32 (wordsOf begin0)).toArray) (.int .i64 (k : Int))).run Try.prog W = .ok (.int .u32 (n32 y)) W := fun W => run_index_agg W Try.underlying33 Try.underlying32 rfl (by kernel_rfl) _ k hlt _ (by rw [hy]; exact c32_get (wordsOf begin0) k (by simp [wordsOf]; exact hlt))
          have q1 : (k : Int) < 8 := by omega
          unfold maxLen at hcm
          subst hv
          clear hy hcell
          go_wp2
          go_roundw
          case rel => exact ⟨k + 1, by omega, by go_num, hS⟩
          case measure => simp [intOf]; omega
        · have q1 : (8 : Int) ≤ k := by omega
          clear hlt hk
          go_wp2_with fail
          refine (k_any _).mono ?_
          rintro e w5 ⟨rfl, hg⟩
          have hS5 := hS.call hg
          clear hg hS
          go_wp2
          rename World => wr0
          go_loopw [48] (fun iv wr => ∃ k : Nat, k ≤ 64 ∧ iv = .int .i64 k ∧ Own w wr [ownsE w2.heap.size 32 1 v3 64 (c32 kList), ownsE _ 32 1 v2 8 (c32 (wordsOf begin0)), rowE w.heap.size 5 (c8 l)]) (fun iv _ => 64 - (intOf iv).toNat)
          case atStart => exact ⟨0, by omega, rfl, hS5⟩
          case round =>
            clear hS5
            obtain ⟨k, hk, rfl, hS⟩ := hrel
            by_cases hlt : k < 64
            · obtain ⟨g, cap, hv, _, _, hnc, hcm, hcell⟩ := own_form (hS.owns 0 rfl) (by omega)
              obtain ⟨y, hy⟩ : ∃ y, y = kList.getD k 0 := ⟨_, rfl⟩
              have c0 := hcell k _ (c32_get kList k (by simp [kList]; exact hlt))
              rw [← hy] at c0
              have hix : ∀ W, (Instr.index 35 (.agg (c32 kList).toArray) (.int .i64 (k : Int))).run Try.prog W = .ok (.int .u32 (n32 y)) W := fun W => run_index_agg W Try.underlying35 Try.underlying32 rfl (by kernel_rfl) _ k hlt _ (by rw [hy]; exact c32_get kList k (by simp [kList]; exact hlt))
              have q1 : (k : Int) < 64 := by omega
              unfold maxLen at hcm
              subst hv
              clear hy hcell
              go_wp2
              go_roundw
              case rel => exact ⟨k + 1, by omega, by go_num, hS⟩
              case measure => simp [intOf]; omega
            · have q2 : (64 : Int) ≤ k := by omega
              clear hlt hk
              go_wp2_with fail
              refine (awake_any _).mono ?_
              rintro e w6 ⟨rfl, hg⟩
              have hS6 := hS.call hg
              clear hg hS
              have hd := dsum_any N (some ⟨w.heap.size, 0, none⟩) l w6 (row_bytes (hS6.row 2 rfl)) (by rw [HL.out]; omega) (by omega) (by rw [HL.out]; omega)
              rw [HL.out] at hd
              go_wp2_with fail
              refine (hd).mono ?_
              rintro e w7 ⟨rfl, hg⟩
              have hS7 := hS6.call hg
              clear hg hS6
              have hd2 := rsum_any N (some ⟨w.heap.size, 0, none⟩) l w7 (row_bytes (hS7.row 2 rfl)) (by rw [HL.out]; omega)
              rw [HL.out] at hd2
              go_wp2_with fail
              refine (hd2).mono ?_
              rintro e w8 ⟨rfl, hg⟩
              have hS8 := hS7.call hg
              clear hg hS7
              have heq := fun W => eq_dig W (sha l) (sha l) (sha_length l) (sha_length l)
              simp only [decide_true] at heq
              clear hd hd2
              go_wp2
              go_ret
              exact ⟨rfl, hS8.grown⟩
end Go.Proofs.Ytgagpbbmlpbjpaa
