/- The walk of the law DigestNil. -/
import Derived.Test.YtgagpbbmlpbjpaaDigestSaves
namespace Go.Proofs.Ytgagpbbmlpbjpaa
open Go.RowKit

def z32 : List UInt8 := List.replicate 32 0
theorem z32_length : z32.length = 32 := by simp [z32]
set_option maxRecDepth 100000 in
theorem sum_nil (w : World) : Calls Try.prog 27 #[.pointer none] w fun e w' => e = .returned (.agg (c8 z32).toArray) ∧ w.grownBy w' none := by
  go_enter Try.func27, Try.ntmps27
  go_wp2_with (refine wp_alloc (o := ⟨some 2, _, _, _, _, _⟩) rfl 25 rfl _ alloc_d ?_)
  intro w1 hr hg hz
  clear hz
  have hS1 := (Own.start w).new hr hg
  clear hr hg
  go_wp2_with (first | (refine wpList_val (o := ⟨some 10, _, _, _, _, _⟩) rfl (.agg (c8 z32).toArray) ?_ ?_; · kernel_rfl) | (refine wp_storeAgg rfl 25 (.tmp 2) (.tmp 10) rfl w.heap.size 0 25 zd (c8 z32) rfl rfl (hS1.row 0 rfl) (by kernel_rfl) (by decide) (by decide) ?_))
  intro w2 hr hg hz
  clear hz
  rw [splice_all (by decide)] at hr
  have hS2 := hS1.setRow 0 rfl hr hg
  go_wp2
  exact bodyPost_ret (v := .agg (c8 z32).toArray) (results_cell_row rfl _ _ w.heap.size _ _ _ _ rfl hr Try.underlying25 rfl (by kernel_rfl)) rfl ⟨rfl, hS2.grown⟩

theorem u8_xor (x : UInt8) : ∃ y : UInt8, bits .xor .u8 (n8 x) 255 = n8 y := by
  have h1 := n8_lo x
  have h2 := n8_hi x
  have : ∀ k : Fin 256, ∃ y : Fin 256, bits .xor .u8 (k.val : Int) 255 = (y.val : Int) := by decide +kernel
  obtain ⟨y, hy⟩ := this ⟨x.toNat, x.toNat_lt⟩
  refine ⟨UInt8.ofNat y.val, ?_⟩
  unfold n8
  rw [UInt8.toNat_ofNat', Nat.mod_eq_of_lt y.isLt]
  exact hy

set_option maxRecDepth 100000 in
set_option maxHeartbeats 4000000 in
theorem walk_DigestNil (w : World) (A : Option Addr) (c : Nat) (p : List UInt8) (hp : Bytes w A p) (hc : p.length ≤ c) (hr : c ≤ 140737488351232) :
    Calls Try.prog 7 #[.slice A p.length c] w fun e w' => e = .returned (.bool true) ∧ w.grownBy w' none := by
  have HP := Lib.hid hp
  clear hp
  go_enter Try.func7, Try.ntmps7
  go_wp2_with fail
  refine (twin_any c A p _ HP.out (by omega)).mono ?_
  rintro e w1 ⟨v1, rfl, ho, hg⟩
  obtain ⟨Av, cv, hv, _⟩ := own_bytes ho
  subst hv
  have hS1 := (Own.start w).made ho hg
  clear ho hg
  go_wp2_with fail
  refine (new_any _).mono ?_
  rintro e w2 ⟨rfl, hrw, hg⟩
  have hS2 := hS1.newE hg (hasE_good w1.heap.size (stAt []) 0) ⟨List.replicate 64 0, by simp, rfl, rfl, hrw⟩ (fun k hk => by cases hk; exact Nat.le_refl _)
  have n1 : w.heap.size ≤ w1.heap.size := hS1.size
  clear hrw hg hS1
  have hcall := swrite_ok w1.heap.size 0 c A p (stAt []) w2 (HP.out.off hS2.grown n1) hc (by omega) (hS2.has 0 rfl) (by omega)
  rw [show feed (stAt []) p = stAt p from rfl, Nat.zero_add] at hcall
  have HC := Lib.hid hcall
  clear hcall
  go_wp2_with fail
  refine HC.out.mono ?_
  rintro e w3 ⟨rfl, hg, hh⟩
  have hS3 := hS2.write 0 rfl (hasE_good w1.heap.size (stAt p) p.length) hh hg (.inl rfl)
  clear hg hh hS2 HC
  go_wp2_with fail
  refine (save_any w1.heap.size p.length (stAt p) _ (hS3.has 0 rfl) (by omega)).mono ?_
  rintro e w4 ⟨v4, rfl, ho, hg⟩
  obtain ⟨gb, cb, rfl, _, _, hcb, hcm, _⟩ := own_form ho (by omega)
  have hS4 := hS3.made ho hg
  have htl := (stAt_tail p).1
  unfold maxLen at hcm
  have hsl : (saveOf (stAt p) p.length).length = 40 + (stAt p).2.length := saveOf_length _ _
  obtain ⟨M, hM⟩ : ∃ M, M = 40 + (stAt p).2.length := ⟨_, rfl⟩
  rw [← hM] at hS4 hcb hsl ⊢
  have hM0 : 0 < M := by omega
  have hM1 : M < 104 := by omega
  have HSL := Lib.hid hsl
  clear ho hg hS3 hM hsl htl
  go_wp2
  go_loopw [18] (fun iv wr => ∃ (k : Nat) (l : List UInt8), k ≤ M ∧ iv = .int .i64 k ∧ l.length = M ∧
    Own w wr [ownsE w3.heap.size 5 1 (.slice (some ⟨gb, 0, none⟩) M cb) M (c8 l), hasE w1.heap.size (stAt p) p.length, ownsE w.heap.size 5 1 (.slice Av p.length cv) p.length (c8 p)]) (fun iv _ => M - (intOf iv).toNat)
  case atStart => exact ⟨0, _, by omega, rfl, HSL.out, hS4⟩
  case round =>
    clear hS4
    obtain ⟨k, l, hk, rfl, hl, hS⟩ := hrel
    have HL := Lib.hid hl
    clear hl
    by_cases hlt : k < M
    · obtain ⟨x, hx⟩ : ∃ x, x = l.getD k 0 := ⟨_, rfl⟩
      have c0 := own_cells (hS.owns 0 rfl) hM0 k _ (c8_get l k (by rw [HL.out]; exact hlt))
      rw [← hx] at c0
      have f0 : wr.frozen? ⟨gb, k, none⟩ = false := (hS.owns 0 rfl).frozenAt k
      obtain ⟨y, hy⟩ := u8_xor x
      have q1 : (k : Int) < M := by omega
      clear hx
      go_wp2
      go_roundw
      case rel =>
        refine ⟨k + 1, l.set k y, by omega, by go_num, by rw [List.length_set, HL.out], ?_⟩
        have hst := (hS.owns 0 rfl).stored k (.int .u8 (n8 y))
        rw [c8_set] at hst
        exact hS.write 0 rfl (ownsE_good _ _ _ _ _ _) hst.1 hst.2 (.inl rfl)
      case measure => simp [intOf]; omega
    · have q1 : (M : Int) ≤ k := by omega
      clear hlt hk
      go_wp2_with fail
      refine (awake_any _).mono ?_
      rintro e w5 ⟨rfl, hg⟩
      have hS1 := hS.call hg
      clear hg hS
      go_wp2_with fail
      refine (swrite_nil _ _).mono ?_
      rintro e w6 ⟨rfl, rfl⟩
      go_wp2_with fail
      refine (size_nil _).mono ?_
      rintro e w6 ⟨rfl, rfl⟩
      go_wp2_with fail
      refine (sum_nil _).mono ?_
      rintro e w6 ⟨rfl, hg⟩
      have hS2 := hS1.call hg
      clear hg hS1
      have heq := fun W => eq_dig W z32 z32 z32_length z32_length
      simp only [decide_true] at heq
      go_wp2_with (refine wp_val (o := ⟨some 43, _, _, _, _, _⟩) rfl (.agg (c8 z32).toArray) ?_ ?_; · kernel_rfl)
      refine (save_nil _).mono ?_
      rintro e w7 ⟨rfl, rfl⟩
      clear heq
      go_wp2_with fail
      refine (stsum_any w1.heap.size p.length (stAt p) _ (hS2.has 1 rfl) (by omega)).mono ?_
      rintro e w7 ⟨rfl, hg⟩
      have hS3 := hS2.call hg
      clear hg hS2
      go_wp2_with fail
      refine (dsum_any c A p _ (HP.out.keep hS3.grown) hc (by omega) (by omega)).mono ?_
      rintro e w8 ⟨rfl, hg⟩
      have hS4 := hS3.call hg
      clear hg hS3
      have heq := fun W => eq_dig W (sha p) (sha p) (sha_length p) (sha_length p)
      simp only [decide_true] at heq
      rw [show closeOf (stAt p) p.length = sha p from rfl]
      have hsame := same_any c cv A Av p p w8 (HP.out.keep hS4.grown) (own_slice_bytes (hS4.owns 2 rfl)) (by omega) (by omega)
      simp only [decide_true] at hsame
      go_wp2_with fail
      refine (hsame).mono ?_
      rintro e w9 ⟨rfl, hg⟩
      have hS5 := hS4.call hg
      clear hg hS4
      clear hsame
      go_wp2
      go_ret
      exact ⟨rfl, hS5.grown⟩
end Go.Proofs.Ytgagpbbmlpbjpaa
