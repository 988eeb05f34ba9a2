/- The document's Words: the roots of the first primes; what they are. -/
import Derived.Test.YtgagpbbmlpbjpaaWords
namespace Go.Proofs.Ytgagpbbmlpbjpaa
open Go.RowKit

def wordsL (n : Nat) (three : Bool) : List UInt32 := (primesL n).map fun q => root32 (UInt64.ofNat q) three
theorem n64_ofNat (q : Nat) (h : q < 1000) : n64 (UInt64.ofNat q) = (q : Int) := by
  unfold n64; rw [UInt64.toNat_ofNat']; omega
theorem info_u32 : (Try.prog.info? 32).map (fun i => (i.zero, i.size, i.bytes)) = some (some (.int .u32 0), 1, 4) := by kernel_rfl
theorem c32_snoc (l : List UInt32) (x : UInt32) : c32 l ++ [.int .u32 (n32 x)] = c32 (l ++ [x]) := by simp [c32, v32]

set_option maxRecDepth 100000 in
set_option maxHeartbeats 1000000 in
theorem words_any (n : Nat) (three : Bool) (w : World) (hn : n ≤ 64) (hfin : (primesL n).length = n) (hall : ∀ q ∈ primesL n, q < 1000) :
    Calls Try.prog 14 #[.int .i64 (n : Int), .bool three] w fun e w' => ∃ v', e = .returned v' ∧ w'.ownsRow w.heap.size 32 1 v' n (c32 (wordsL n three)) ∧ w.grownBy w' none := by
  have HF := Lib.hid hfin
  have HA := Lib.hid hall
  go_enter Try.func14, Try.ntmps14
  go_wp2_with fail
  refine (primes_any n _ hn HF.out).mono ?_
  rintro e w1 ⟨v1, rfl, ho, hg⟩
  have hS := (Own.start w).newE hg (ownE_good _ _ _ _ _) ho (fun k hk => (World.ownsRow.lt ho k hk).1)
  clear ho hg hfin hall
  go_wp2
  go_loopw [6, 7] (fun sv iv wr => ∃ k : Nat, k ≤ n ∧ iv = .int .i64 k ∧ Own w wr [ownE w.heap.size 32 sv k (c32 ((wordsL n three).take k)), ownE w.heap.size 44 v1 n (cN (primesL n))]) (fun _ iv _ => n - (intOf iv).toNat)
  case atStart => exact ⟨0, by omega, rfl, by simpa [c32] using hS.nilRow w.heap.size 32⟩
  case round =>
    clear hS
    obtain ⟨k, hk, rfl, hS⟩ := hrel
    have hbo := own_block (hS.own 0 rfl)
    by_cases hlt : k < n
    · obtain ⟨g, cap, hv, _, _, hnc, hcm, hcell⟩ := own_form (hS.own 1 rfl) (by omega)
      obtain ⟨q, hq⟩ : ∃ q, q = (primesL n).getD k 0 := ⟨_, rfl⟩
      have hkl : k < (primesL n).length := by rw [HF.out]; exact hlt
      have c0 : wr.cell? ⟨g, k, none⟩ = some (.int .u64 (q : Int)) := hcell k _ (by rw [hq]; simp [cN, List.getElem?_map, vN, List.getElem?_eq_getElem hkl])
      have hq1000 : q < 1000 := HA.out q (by rw [hq]; simp [List.getElem?_eq_getElem hkl])
      have hr := root_any (UInt64.ofNat q) three wr
      rw [n64_ofNat q hq1000] at hr
      have hwl : (wordsL n three).take (k + 1) = (wordsL n three).take k ++ [root32 (UInt64.ofNat q) three] := by
        rw [List.take_add_one, hq]; simp [wordsL, List.getElem?_map, List.getElem?_eq_getElem hkl]
      obtain ⟨R, hR⟩ : ∃ R, R = root32 (UInt64.ofNat q) three := ⟨_, rfl⟩
      rw [← hR] at hr hwl
      have HR := Lib.hid hr
      have HW := Lib.hid hwl
      subst hv
      have q1 : (k : Int) < n := by omega
      unfold maxLen at hcm
      clear hq hkl hr hwl hR hcell
      go_wp2_with fail
      refine HR.out.mono ?_
      rintro e w2 ⟨rfl, rfl⟩
      go_wp2_with (refine wp_append1 rfl (.tmp 15) (.tmp 22) 30 rfl w.heap.size 32 (.int .u32 0) 4 Try.underlying30 info_u32 rfl _ k (c32 ((wordsL n three).take k)) rfl ((hS.own 0 rfl).alloc _) _ 1 1 [.int .u32 (n32 R)] rfl (.inr ⟨_, rfl, cell_one_new _ _ _⟩) rfl (by simp [Value.oneCell']) (by unfold maxLen; omega) (by omega) (by simp; have := hS.size; omega) ?_)
      intro v' w2 ho2 hg2 hv2
      rw [c32_snoc, ← HW.out] at ho2
      have hS2 := (hS.call (World.grownBy_alloc _ _ none)).append 0 rfl ho2 hg2 (by simpa using hv2)
      clear hS ho2 hg2 hv2 hbo c0
      go_wp2
      go_roundw
      case rel => exact ⟨k + 1, by omega, by go_num, hS2⟩
      case measure => simp [intOf]; omega
    · have hke : k = n := by omega
      have hall2 : (wordsL n three).take n = wordsL n three := List.take_of_length_le (by simp [wordsL]; have := HF.out; omega)
      rw [hke, hall2] at hS
      clear hke hbo hall2
      go_wp2
      go_ret
      exact ⟨_, rfl, hS.own 0 rfl, hS.grown⟩

theorem primes8 : (primesL 8).length = 8 ∧ ∀ q ∈ primesL 8, q < 1000 := by decide +kernel
theorem primes64 : (primesL 64).length = 64 ∧ ∀ q ∈ primesL 64, q < 1000 := by decide +kernel
theorem words8 : wordsL 8 false = wordsOf begin0 := by decide +kernel
theorem words64 : wordsL 64 true = kList := by decide +kernel
end Go.Proofs.Ytgagpbbmlpbjpaa
