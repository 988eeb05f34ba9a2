/- The contract of Strays. -/
import Derived.Test.YtpohjldhbaalbaaStraysL3
import Derived.Test.YtpohjldhbaalbaaStraysR3
namespace Go.Proofs.Ytpohjldhbaalbaa
set_option linter.unusedVariables false
set_option linter.unusedSimpArgs false
set_option linter.unusedSectionVars false
open Go.RowKit
set_option linter.unusedVariables false

theorem zero32_eq : zero32 = zeros32 := rfl
set_option maxRecDepth 100000 in
set_option maxHeartbeats 40000000 in
theorem strays_eq (w : World) (A B W : Option Addr) (c d e n q : Nat) (whole R : Bool)
    (cd : ∀ W', w.grownBy W' none → Calls Try.prog 54 #[.slice A n c, .slice B n d] W' fun e w' => e = .returned (.bool R) ∧ W'.grownBy w' none) :
    Calls Try.prog 32 #[.slice A n c, .slice B n d, .bool whole, .slice W q e] w fun e' w' => e' = .returned (.bool R) ∧ w.grownBy w' none := by
  have hS0 := Own.start w
  go_enter Try.func32, Try.ntmps32
  go_wp2_with fail
  refine (cd _ hS0.grown).mono ?_
  rintro e' w2 ⟨rfl, hg⟩
  have hS1 := hS0.call hg
  clear hg hS0
  go_wp2
  go_ret
  exact ⟨rfl, hS1.grown⟩
set_option maxRecDepth 100000 in
set_option maxHeartbeats 40000000 in
theorem strays_few (w : World) (A B W : Option Addr) (c d e n m : Nat) (whole : Bool) (nm : n < m) :
    Calls Try.prog 32 #[.slice A n c, .slice B m d, .bool whole, .slice W 0 e] w fun e' w' => e' = .returned (.bool false) ∧ w.grownBy w' none := by
  have t1 : decide ((n : Int) = (m : Int)) = false := by simp; omega
  have t2 : ((n : Int) == (m : Int)) = false := by simp; omega
  have t3 : ¬ n = m := by omega
  clear nm
  go_enter Try.func32, Try.ntmps32
  go_wp2
  go_ret
  exact ⟨rfl, grownBy_refl _ _⟩
theorem strays_any : ∀ (M : Nat) (A : Option Addr) (c : Nat) (L : Way) (B : Option Addr) (d : Nat) (K : Way) (whole : Bool) (W : Option Addr) (e : Nat) (way : Way) (w : World), K.length ≤ M → 1 ≤ L.length → L.length ≤ K.length → Rows32 w A c L → Rows32 w B d K → Rows32 w W e way → c ≤ 9223372036854775807 → d ≤ 9223372036854775807 → e ≤ 9223372036854775807 → K.length ≤ 4398046510000 →
    Calls Try.prog 32 #[.slice A L.length c, .slice B K.length d, .bool whole, .slice W way.length e] w fun e' w' => e' = .returned (.bool (straysL L K whole way)) ∧ w.grownBy w' none := by
  intro M
  induction M with
  | zero => intro A c L B d K whole W e way w hM h1 h2; omega
  | succ M ih =>
    intro A c L B d K whole W e way w hM h1 h2 hL hK hW hc hd he hkm
    by_cases hl : L.length = K.length
    · rw [straysL_same hl, ← hl]
      exact strays_eq w A B W c d e L.length way.length whole _ (fun W' hg => by have := differ_any _ A c L B d K W' (Nat.le_refl _) (hL.keep hg) (hK.keep hg) hc hd (by omega); rw [← hl] at this; exact this)
    by_cases hq : way.length = 0
    · rw [straysL_few hl (.inr hq), hq]
      exact strays_few w A B W c d e L.length K.length whole (by omega)
    have hk2 : 2 ≤ K.length := by omega
    have hlt := half_lt hk2
    have hge := half_ge hk2
    have hp := half_pos K.length
    have hle := hL.le
    have hke := hK.le
    have hwe := hW.le
    have l3 : (K.take (half K.length)).length = half K.length := by simp; omega
    have l4 : (K.drop (half K.length)).length = K.length - half K.length := by simp
    have l5 : (way.take (way.length - 1)).length = way.length - 1 := by simp
    have hKt := hK.take (half K.length) (by omega)
    have hKd := hK.drop (half K.length) (by omega)
    have hlo := hW.take (way.length - 1) (by omega)
    obtain ⟨bs, offs, hB, hat⟩ := hW.at_ (way.length - 1) (by omega)
    have hsl : (sideL way).length = 32 := hW.all.at_ (way.length - 1) (by omega)
    have hsp := fun W => rhalf_any K.length W hk2 (by omega)
    have hsT2 := fun W => run_to32 Try.underlying22 size_a B K.length d (half K.length) (by omega) W
    have hsF2 := fun W => run_from32 Try.underlying22 size_a B K.length d (half K.length) (by omega) (by omega) W
    have hsL := fun W' => run_to32 Try.underlying22 size_a W way.length e (way.length - 1) (by omega) W'
    have cu := fun W (hg : w.grownBy W none) => rroot_any _ B d (K.take (half K.length)) W (Nat.le_refl _) (hKt.keep hg) hd
    have cv := fun W (hg : w.grownBy W none) => rroot_any _ _ _ (K.drop (half K.length)) W (Nat.le_refl _) (hKd.keep hg) (by omega)
    rw [l3] at cu
    rw [l4] at cv
    have hul := rootL_length _ hKt.all
    have hvl := rootL_length _ hKd.all
    have hz : zeros32.length = 32 := by simp [zeros32]
    by_cases hm : L.length ≤ half K.length
    · rw [straysL_left hl hk2 (by omega) hm]
      have hral := rootL_length _ hL.all
      have cra := fun W (hg : w.grownBy W none) => rroot_any _ A c L W (Nat.le_refl _) (hL.keep hg) hc
      have cg := fun W' (hg : w.grownBy W' none) => rgrow_any (half K.length) L.length (half K.length) (rootL L) whole W e (way.take (way.length - 1)) W' W' (Nat.le_refl _) h1 hm (by omega) hral (grownBy_refl _ _) (hlo.keep hg) he
      rw [l5] at cg
      have hlen := growO_len (half K.length) L.length (half K.length) (rootL L) whole (way.take (way.length - 1)) (Nat.le_refl _) hral hlo.all
      have cr2 := fun W' (hg : w.grownBy W' none) => ih A c L B d (K.take (half K.length)) whole W e (way.take (way.length - 1)) W' (by omega) h1 (by omega) (hL.keep hg) (hKt.keep hg) (hlo.keep hg) hc hd he (by omega)
      rw [l3, l5] at cr2
      match ho : growO (rootL L) L.length (half K.length) whole (way.take (way.length - 1)) with
      | none =>
        rw [ho] at cg
        exact strays_left w A none B _ W none c d e L.length K.length (half K.length) way.length (way.length - 1) bs offs 0 0 (sideL way) zeros32 zeros32 _ _ _ false whole _ _ (Lib.hid hsl) (Lib.hid hz) (Lib.hid hz) (Lib.hid hul) (Lib.hid hvl) (Lib.hid hral) (by omega) (by omega) (by omega) (by omega) (by omega) (by omega) (by omega) (by omega) hm (by omega) (by omega) (by omega) (by omega) (by omega) hB (Lib.hid hat) hsp hsT2 hsF2 hsL cu cv cra
          (fun W' hg => (cg W' hg).mono fun e' w' h => ⟨h.1, h.2⟩) cr2 (Lib.hid rfl)
      | some (x, y, r) =>
        rw [ho] at cg
        exact strays_left w A none B _ W _ c d e L.length K.length (half K.length) way.length (way.length - 1) bs offs _ _ (sideL way) x y _ _ _ true whole _ _ (Lib.hid hsl) (Lib.hid (hlen x y r ho).1) (Lib.hid (hlen x y r ho).2.1) (Lib.hid hul) (Lib.hid hvl) (Lib.hid hral) (by omega) (by omega) (by omega) (by omega) (by omega) (by omega) (by omega) (by omega) hm (by omega) (by omega) (by omega) (by omega) (by omega) hB (Lib.hid hat) hsp hsT2 hsF2 hsL cu cv cra
          (fun W' hg => (cg W' hg).mono fun e' w' h => ⟨h.1, h.2⟩) cr2 (Lib.hid rfl)
    · rw [straysL_right hl hk2 (by omega) hm, zero32_eq]
      have e1 : ((L.length - half K.length : Nat) : Int) = (L.length : Int) - (half K.length : Int) := by omega
      have e2 : ((K.length - half K.length : Nat) : Int) = (K.length : Int) - (half K.length : Int) := by omega
      have l1 : (L.take (half K.length)).length = half K.length := by simp; omega
      have l2 : (L.drop (half K.length)).length = L.length - half K.length := by simp
      have hLt := hL.take (half K.length) (by omega)
      have hLd := hL.drop (half K.length) (by omega)
      have hsT := fun W => run_to32 Try.underlying22 size_a A L.length c (half K.length) (by omega) W
      have hsF := fun W => run_from32 Try.underlying22 size_a A L.length c (half K.length) (by omega) hle W
      have cp := fun W (hg : w.grownBy W none) => rroot_any _ A c (L.take (half K.length)) W (Nat.le_refl _) (hLt.keep hg) hc
      have cr := fun W (hg : w.grownBy W none) => rroot_any _ _ _ (L.drop (half K.length)) W (Nat.le_refl _) (hLd.keep hg) (by omega)
      rw [l1] at cp
      rw [l2] at cr
      have cm := fun W (hg : w.grownBy W none) => same_any A B c d _ _ W (hLt.keep hg) (hKt.keep hg) (by omega)
      have cdf := fun W (hg : w.grownBy W none) => differ_any _ A c (L.take (half K.length)) B d (K.take (half K.length)) W (Nat.le_refl _) (hLt.keep hg) (hKt.keep hg) hc hd (by omega)
      rw [l1, l3] at cm
      rw [l1, l3] at cdf
      have cg := fun W' (hg : w.grownBy W' none) => rgrow_any (K.length - half K.length) (L.length - half K.length) (K.length - half K.length) zeros32 false W e (way.take (way.length - 1)) W' W' (Nat.le_refl _) (by omega) (by omega) (by omega) hz (grownBy_refl _ _) (hlo.keep hg) he
      rw [l5, e1, e2] at cg
      have hlen := growO_len (K.length - half K.length) (L.length - half K.length) (K.length - half K.length) zeros32 false (way.take (way.length - 1)) (Nat.le_refl _) hz hlo.all
      have cr2 := fun W' (hg : w.grownBy W' none) => ih _ _ (L.drop (half K.length)) _ _ (K.drop (half K.length)) false W e (way.take (way.length - 1)) W' (by omega) (by omega) (by omega) (hLd.keep hg) (hKd.keep hg) (hlo.keep hg) (by omega) (by omega) he (by omega)
      rw [l2, l4, l5] at cr2
      have hpl := rootL_length _ hLt.all
      have hrl := rootL_length _ hLd.all
      have key : ∀ (b : Bool) (x y : List UInt8) (R1 R2 R3 RS : Bool), (if b = true then (if sideL way ≠ rootL (K.take (half K.length)) ∨ y ≠ rootL (K.drop (half K.length)) then R1 else if sideL way ≠ rootL (L.take (half K.length)) ∨ x ≠ rootL (L.drop (half K.length)) then R2 else if decide (L.take (half K.length) = K.take (half K.length)) = false then R3 else RS) else false) =
          (if b = true then (if sideL way ≠ rootL (K.take (half K.length)) ∨ y ≠ rootL (K.drop (half K.length)) then R1 else if sideL way ≠ rootL (L.take (half K.length)) ∨ x ≠ rootL (L.drop (half K.length)) then R2 else if L.take (half K.length) ≠ K.take (half K.length) then R3 else RS) else false) := by
        intro b x y R1 R2 R3 RS
        by_cases hy : L.take (half K.length) = K.take (half K.length)
        · simp [hy]
        · simp [hy]
      match ho : growO zeros32 (L.length - half K.length) (K.length - half K.length) false (way.take (way.length - 1)) with
      | none =>
        rw [ho] at cg
        refine (strays_right w A _ B _ W none c d e L.length K.length (half K.length) way.length (way.length - 1) bs offs 0 0 (sideL way) zeros32 zeros32 _ _ _ _ false whole _ _ _ _ _ (Lib.hid hsl) (Lib.hid hz) (Lib.hid hz) (Lib.hid hul) (Lib.hid hvl) (Lib.hid hpl) (Lib.hid hrl) (by omega) (by omega) (by omega) (by omega) (by omega) (by omega) (by omega) (by omega) hm (by omega) (by omega) (by omega) (by omega) (by omega) hB (Lib.hid hat) hsp hsT2 hsF2 hsT hsF hsL cu cv cp cr
          (fun W' hg => (cg W' hg).mono fun e' w' h => ⟨h.1, h.2⟩) cr2 cm cdf (Lib.hid rfl) (Lib.hid rfl)).mono fun e' w' h => ⟨?_, h.2⟩
        rw [h.1]; rfl
      | some (x, y, r) =>
        rw [ho] at cg
        refine (strays_right w A _ B _ W _ c d e L.length K.length (half K.length) way.length (way.length - 1) bs offs _ _ (sideL way) x y _ _ _ _ true whole _ _ _ _ _ (Lib.hid hsl) (Lib.hid (hlen x y r ho).1) (Lib.hid (hlen x y r ho).2.1) (Lib.hid hul) (Lib.hid hvl) (Lib.hid hpl) (Lib.hid hrl) (by omega) (by omega) (by omega) (by omega) (by omega) (by omega) (by omega) (by omega) hm (by omega) (by omega) (by omega) (by omega) (by omega) hB (Lib.hid hat) hsp hsT2 hsF2 hsT hsF hsL cu cv cp cr
          (fun W' hg => (cg W' hg).mono fun e' w' h => ⟨h.1, h.2⟩) cr2 cm cdf (Lib.hid rfl) (Lib.hid rfl)).mono fun e' w' h => ⟨?_, h.2⟩
        rw [h.1, key]; rfl
end Go.Proofs.Ytpohjldhbaalbaa
