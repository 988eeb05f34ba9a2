/- The contract of Finds. -/
import Derived.Test.YtpohjldhbaalbaaFindsL3
import Derived.Test.YtpohjldhbaalbaaFindsR3
namespace Go.Proofs.Ytpohjldhbaalbaa
set_option linter.unusedVariables false
set_option linter.unusedSimpArgs false
set_option linter.unusedSectionVars false
open Go.RowKit
set_option linter.unusedVariables false

set_option maxRecDepth 100000 in
set_option maxHeartbeats 4000000 in
theorem finds_few (w : World) (A B : Option Addr) (c n q e : Nat) (i : Nat) (leaf : List UInt8) (hf : n < 2 ∨ (2 ≤ n ∧ q = 0)) :
    Calls Try.prog 27 #[.slice A n c, .int .i64 (i : Int), .agg (c8 leaf).toArray, .slice B q e] w fun e' w' => e' = .returned (.bool false) ∧ w.grownBy w' none := by
  rcases hf with hf | ⟨hf, hq⟩
  · have t1 : decide ((n : Int) < 2) = true := by simp; omega
    have t2 : decide (n < 2) = true := by simp; omega
    have t3 : (n : Int) < 2 := by omega
    clear hf
    go_enter Try.func27, Try.ntmps27
    go_wp2_with (refine wp_box (o := ⟨some 6, _, _, _, _, _⟩) rfl 26 (.tmp 2) rfl (c8 leaf) rfl ?_)
    intro w1 hr hg hz
    clear hz
    have hS1 := ((Own.start w)).new hr hg
    clear hr hg
    go_wp2
    go_ret
    exact ⟨rfl, hS1.grown⟩
  · subst hq
    have t1 : decide ((n : Int) < 2) = false := by simp; omega
    have t2 : decide (n < 2) = false := by simp; omega
    have t3 : ¬ n < 2 := by omega
    clear hf
    go_enter Try.func27, Try.ntmps27
    go_wp2_with (refine wp_box (o := ⟨some 6, _, _, _, _, _⟩) rfl 26 (.tmp 2) rfl (c8 leaf) rfl ?_)
    intro w1 hr hg hz
    clear hz
    have hS1 := ((Own.start w)).new hr hg
    clear hr hg
    go_wp2
    go_ret
    exact ⟨rfl, hS1.grown⟩
theorem finds_any : ∀ (M : Nat) (A : Option Addr) (c : Nat) (L : Way) (i : Nat) (leaf : List UInt8) (B : Option Addr) (e : Nat) (way : Way) (w : World), L.length ≤ M → Rows32 w A c L → Rows32 w B e way → c ≤ 9223372036854775807 → e ≤ 9223372036854775807 → leaf.length = 32 → i < L.length →
    Calls Try.prog 27 #[.slice A L.length c, .int .i64 (i : Int), .agg (c8 leaf).toArray, .slice B way.length e] w fun e' w' => e' = .returned (.bool (findsL L i leaf way)) ∧ w.grownBy w' none := by
  intro M
  induction M with
  | zero => intro A c L i leaf B e way w hM hL hW hc he hl hi; omega
  | succ M ih =>
    intro A c L i leaf B e way w hM hL hW hc he hl hi
    by_cases hf : L.length < 2 ∨ way.length = 0
    · rw [findsL_few hf]
      exact finds_few w A B c L.length way.length e i leaf (by omega)
    · have h2 : 2 ≤ L.length := by omega
      have hq : 0 < way.length := by omega
      have hlt := half_lt h2
      have hp := half_pos L.length
      have hle := hL.le
      have hwe := hW.le
      have hto := hL.take (half L.length) (by omega)
      have hfr := hL.drop (half L.length) (by omega)
      have hlo := hW.take (way.length - 1) (by omega)
      have l1 : (L.take (half L.length)).length = half L.length := by simp; omega
      have l2 : (L.drop (half L.length)).length = L.length - half L.length := by simp
      have l3 : (way.take (way.length - 1)).length = way.length - 1 := by simp
      obtain ⟨bs, offs, hB, hat⟩ := hW.at_ (way.length - 1) (by omega)
      have hsl : (sideL way).length = 32 := hW.all.at_ (way.length - 1) (by omega)
      have hsp := fun W => rhalf_any L.length W h2 (by omega)
      have hsT := fun W => run_to32 Try.underlying22 size_a A L.length c (half L.length) (by omega) W
      have hsF := fun W => run_from32 Try.underlying22 size_a A L.length c (half L.length) (by omega) hle W
      have hsL := fun W => run_to32 Try.underlying22 size_a B way.length e (way.length - 1) (by omega) W
      have ca := fun W (hg : w.grownBy W none) => rroot_any _ A c (L.take (half L.length)) W (Nat.le_refl _) (hto.keep hg) hc
      have cb := fun W (hg : w.grownBy W none) => rroot_any _ _ _ (L.drop (half L.length)) W (Nat.le_refl _) (hfr.keep hg) (by omega)
      rw [l1] at ca
      rw [l2] at cb
      have hal := rootL_length _ hto.all
      have hbl := rootL_length _ hfr.all
      have hz : zeros32.length = 32 := by simp [zeros32]
      by_cases hh : i < half L.length
      · rw [findsL_left leaf h2 hq hh]
        have cu := fun W (hg : w.grownBy W none) => up_any (half L.length) (half L.length) i leaf B e (way.take (way.length - 1)) W W (Nat.le_refl _) hh (by omega) hl (grownBy_refl _ _) (hlo.keep hg) he
        rw [l3] at cu
        have cr := fun W (hg : w.grownBy W none) => ih A c (L.take (half L.length)) i leaf B e (way.take (way.length - 1)) W (by omega) (hto.keep hg) (hlo.keep hg) hc he hl (by omega)
        rw [l1, l3] at cr
        have hlen := upO_len (half L.length) (half L.length) i leaf (way.take (way.length - 1)) (Nat.le_refl _) hl
        match ho : upO (half L.length) i leaf (way.take (way.length - 1)) with
        | none =>
          rw [ho] at cu
          exact finds_left w A _ c L.length (half L.length) i way.length (way.length - 1) e bs offs leaf (sideL way) zeros32 _ _ false _ _ (Lib.hid hl) (Lib.hid hsl) (Lib.hid hz) (Lib.hid hal) (Lib.hid hbl) (by omega) (by omega) (by omega) (by omega) (by omega) hh (by omega) (by omega) (by omega) (by omega) (by omega) B hB (Lib.hid hat) hsp hsT hsF hsL
            (fun W hg => (cu W hg).mono fun e' w' h => ⟨_, _, _, h.1, h.2⟩) ca cb cr (Lib.hid rfl)
        | some (d, r) =>
          rw [ho] at cu
          exact finds_left w A _ c L.length (half L.length) i way.length (way.length - 1) e bs offs leaf (sideL way) d _ _ true _ _ (Lib.hid hl) (Lib.hid hsl) (Lib.hid (hlen d r ho).1) (Lib.hid hal) (Lib.hid hbl) (by omega) (by omega) (by omega) (by omega) (by omega) hh (by omega) (by omega) (by omega) (by omega) (by omega) B hB (Lib.hid hat) hsp hsT hsF hsL
            (fun W hg => (cu W hg).mono fun e' w' h => ⟨_, _, _, h.1, h.2⟩) ca cb cr (Lib.hid rfl)
      · rw [findsL_right leaf h2 hq hh]
        have e1 : ((L.length - half L.length : Nat) : Int) = (L.length : Int) - (half L.length : Int) := by omega
        have e2 : ((i - half L.length : Nat) : Int) = (i : Int) - (half L.length : Int) := by omega
        have cu := fun W (hg : w.grownBy W none) => up_any (L.length - half L.length) (L.length - half L.length) (i - half L.length) leaf B e (way.take (way.length - 1)) W W (Nat.le_refl _) (by omega) (by omega) hl (grownBy_refl _ _) (hlo.keep hg) he
        rw [l3, e1, e2] at cu
        have cr := fun W (hg : w.grownBy W none) => ih _ _ (L.drop (half L.length)) (i - half L.length) leaf B e (way.take (way.length - 1)) W (by omega) (hfr.keep hg) (hlo.keep hg) (by omega) he hl (by omega)
        rw [l2, l3, e2] at cr
        have hlen := upO_len (L.length - half L.length) (L.length - half L.length) (i - half L.length) leaf (way.take (way.length - 1)) (Nat.le_refl _) hl
        match ho : upO (L.length - half L.length) (i - half L.length) leaf (way.take (way.length - 1)) with
        | none =>
          rw [ho] at cu
          exact finds_right w A _ c L.length (half L.length) i way.length (way.length - 1) e bs offs leaf (sideL way) zeros32 _ _ false _ _ (Lib.hid hl) (Lib.hid hsl) (Lib.hid hz) (Lib.hid hal) (Lib.hid hbl) (by omega) (by omega) (by omega) (by omega) (by omega) hh (by omega) (by omega) (by omega) (by omega) (by omega) (by omega) B hB (Lib.hid hat) hsp hsT hsF hsL
            (fun W hg => (cu W hg).mono fun e' w' h => ⟨_, _, _, h.1, h.2⟩) ca cb cr (Lib.hid rfl)
        | some (d, r) =>
          rw [ho] at cu
          exact finds_right w A _ c L.length (half L.length) i way.length (way.length - 1) e bs offs leaf (sideL way) d _ _ true _ _ (Lib.hid hl) (Lib.hid hsl) (Lib.hid (hlen d r ho).1) (Lib.hid hal) (Lib.hid hbl) (by omega) (by omega) (by omega) (by omega) (by omega) hh (by omega) (by omega) (by omega) (by omega) (by omega) (by omega) B hB (Lib.hid hat) hsp hsT hsF hsL
            (fun W hg => (cu W hg).mono fun e' w' h => ⟨_, _, _, h.1, h.2⟩) ca cb cr (Lib.hid rfl)
end Go.Proofs.Ytpohjldhbaalbaa
