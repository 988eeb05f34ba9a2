/- A slice of slices of bytes that came in. -/
import Derived.Test.YtnlnkojcbjaeeaaOpen
import Derived.Deep.Matrix
namespace Go.Proofs.Ytnlnkojcbjaeeaa
set_option linter.unusedVariables false
set_option linter.unusedSimpArgs false
set_option linter.unusedSectionVars false
open Go.RowKit
set_option linter.unusedVariables false
/-- a slice of slices of bytes that reads as E -/
def RowsB (w : World) (A : Option Addr) (E : List (List UInt8)) : Prop := ∀ r, r < E.length → ∃ b off B c, A = some ⟨b, off, none⟩ ∧ w.cell? ⟨b, off + r, none⟩ = some (.slice B (E.getD r []).length c) ∧ Bytes w B (E.getD r []) ∧ (E.getD r []).length ≤ c ∧ c ≤ 9223372036854775807 ∧ (B = none → c = 0)
theorem RowsB.keep {w w' : World} {A : Option Addr} {E : List (List UInt8)} (h : RowsB w A E) (hg : w.grownBy w' none) : RowsB w' A E := fun r hr => by
  obtain ⟨b, off, B, c, h1, h2, h3, h4⟩ := h r hr
  exact ⟨b, off, B, c, h1, hg.cell h2 (by simp), h3.keep hg, h4⟩
section
variable {P : Program} {H : Type} {enc : TypeId × Value → H} {W : World}
theorem bytes_ints : ∀ {z : List Int}, (∀ n ∈ z, (Lit.int .u8 n).wf = true) → ∃ l : List UInt8, l.length = z.length ∧ ∀ j, j < z.length → z.getD j 0 = n8 (l.getD j 0)
  | [], _ => ⟨[], rfl, fun j hj => by simp at hj⟩
  | x :: z, h => by
    obtain ⟨l, hl, hh⟩ := bytes_ints (z := z) (fun n hn => h n (by simp [hn]))
    have hb := bounds_u8 (h x (by simp))
    refine ⟨UInt8.ofNat x.toNat :: l, by simp [hl], fun j hj => ?_⟩
    cases j with
    | zero =>
      simp only [List.getD_cons_zero, n8]
      rw [UInt8.toNat_ofNat', Nat.mod_eq_of_lt (by omega), Int.toNat_of_nonneg hb.1]
    | succ j =>
      simp only [List.getD_cons_succ]
      exact hh j (by simpa using hj)
theorem open_rowsB {t e q : TypeId} (ht : P.underlying t = some (.slice e)) (he : P.underlying e = some (.slice q)) (hq : P.underlying q = some (.int .u8)) (ce : P.cellsOf e = 1) (cq : P.cellsOf q = 1)
    {v : Value} {r : Reach} {b0 : Nat} {d : DataW H} {pl : List MemPlace} (hv : Value.okWide P W r b0 t v) (h : DataW.Trod enc P W 0 (fun _ => true) true t v d pl) :
    ∃ (A : Option Addr) (len cap : Nat) (E : List (List UInt8)), v = .slice A len cap ∧ E.length = len ∧ RowsB W A E ∧ SliceIn d len cap := by
  obtain ⟨A, len, cap, rfl⟩ := Go.WideShapes.okWide_slice ht hv
  obtain ⟨fuel, hf⟩ := h
  rcases Go.Deep.open_int_rows ht he hq ce cq hf with ⟨hcs, hx⟩ | ⟨a, l, c, B, L, C, Z, hcs, _, hl, hm, hx, hrow⟩
  · simp [Value.cells] at hcs
    obtain ⟨rfl, rfl, rfl⟩ := hcs
    simp only [Prod.mk.injEq] at hx
    exact ⟨none, 0, 0, [], rfl, rfl, fun r hr => by simp at hr, by omega, by simp [maxLen], .inl ⟨hx.1, rfl⟩⟩
  · simp [Value.cells] at hcs
    obtain ⟨rfl, rfl, rfl⟩ := hcs
    have each : ∀ r, r < cap → ∃ p : List UInt8, p.length = L r ∧ Bytes W (B r) p := by
      intro r hr
      obtain ⟨h1, h2, h3, h4, h5, h6, h7⟩ := hrow r hr
      obtain ⟨p, hp, hpp⟩ := bytes_ints h5
      refine ⟨p.take (L r), by simp; omega, ?_⟩
      intro h0
      have hL : 0 < L r := by simp at h0; omega
      cases hB : B r with
      | none => have := h6 hB; omega
      | some a' =>
        obtain ⟨_, hc⟩ := h7 a' hB
        obtain ⟨b, off, rfl⟩ := spot_of (hc 0 (by omega))
        refine ⟨b, off, rfl, fun j hj => ?_⟩
        have hjl : j < L r := by simp at hj; omega
        have hcj := hc j (by omega)
        rw [addr_add, hpp j (by omega)] at hcj
        rw [hcj]
        simp [List.getD_eq_getElem?_getD, List.getElem?_take, hjl, v8]
    obtain ⟨f, hff⟩ := Go.Deep.choose_lt each
    refine ⟨some a, len, cap, (List.range len).map f, rfl, by simp, fun r hr => ?_, hl, hm, .inr ⟨_, _, (Prod.mk.inj hx).1, by simp; omega⟩⟩
    simp at hr
    obtain ⟨h1, h2, h3, h4, h5, h6, h7⟩ := hrow r (by omega)
    obtain ⟨b, off, rfl⟩ : ∃ b off, a = ⟨b, off, none⟩ := by
      obtain ⟨k1, _⟩ := hrow 0 (by omega)
      exact spot_of k1
    have e : ((List.range len).map f).getD r [] = f r := by simp [List.getD_eq_getElem?_getD, hr]
    rw [e, (hff r (by omega)).1]
    rw [addr_add] at h1
    exact ⟨b, off, B r, C r, rfl, h1, (hff r (by omega)).2, h2, by simpa [maxLen] using h3, h6⟩
end
end Go.Proofs.Ytnlnkojcbjaeeaa
