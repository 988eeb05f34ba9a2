/- A slice of a script's steps that came in. -/
import Derived.Test.YtnlnkojcbjaeeaaOpenE18
import Derived.Test.YtnlnkojcbjaeeaaChecked
import Derived.ChangeArms
namespace Go.Proofs.Ytnlnkojcbjaeeaa
set_option linter.unusedVariables false
set_option linter.unusedSimpArgs false
set_option linter.unusedSectionVars false
open Go.RowKit
set_option linter.unusedVariables false
structure OpV where
  kind : Int
  d : UInt8
  to : List UInt8
  n : Int
def opZ : OpV := ⟨0, 0, [], 0⟩
/-- what four cells say of a step -/
def OpAt (w : World) (b o : Nat) (x : OpV) : Prop := w.cell? ⟨b, o, none⟩ = some (.int .i64 x.kind) ∧ w.cell? ⟨b, o + 1, none⟩ = some (.int .u8 (n8 x.d)) ∧
  (∃ B c, w.cell? ⟨b, o + 2, none⟩ = some (.slice B x.to.length c) ∧ Bytes w B x.to ∧ x.to.length ≤ c ∧ c ≤ 9223372036854775807 ∧ (B = none → c = 0)) ∧
  w.cell? ⟨b, o + 3, none⟩ = some (.int .i64 x.n) ∧ (Lit.int .i64 x.kind).wf = true ∧ (Lit.int .i64 x.n).wf = true
theorem OpAt.keep {w w' : World} {b o : Nat} {x : OpV} (h : OpAt w b o x) (hg : w.grownBy w' none) : OpAt w' b o x := by
  obtain ⟨h1, h2, ⟨B, c, h3, h4, h5⟩, h6, h7⟩ := h
  exact ⟨hg.cell h1 (by simp), hg.cell h2 (by simp), ⟨B, c, hg.cell h3 (by simp), h4.keep hg, h5⟩, hg.cell h6 (by simp), h7⟩
def OpsIn (w : World) (A : Option Addr) (O : List OpV) : Prop := ∀ r, r < O.length → ∃ b off, A = some ⟨b, off, none⟩ ∧ OpAt w b (off + r * 4) (O.getD r opZ)
theorem OpsIn.keep {w w' : World} {A : Option Addr} {O : List OpV} (h : OpsIn w A O) (hg : w.grownBy w' none) : OpsIn w' A O := fun r hr => by
  obtain ⟨b, off, h1, h2⟩ := h r hr
  exact ⟨b, off, h1, h2.keep hg⟩
section
variable {H : Type} {enc : TypeId × Value → H} {W : World}
theorem four {α : Type} {l : List α} (h : l.length = 4) : ∃ a b c d, l = [a, b, c, d] := by
  match l, h with
  | [a, b, c, d], _ => exact ⟨a, b, c, d, rfl⟩
set_option maxRecDepth 100000 in
theorem open_op {fuel : Nat} {cs : List Value} {y : DataW H × List MemPlace} (h : DataW.trod enc Try.prog W 0 (fun _ => true) true fuel 51 cs = some y) :
    ∃ (k n : Int) (d : UInt8) (to : List UInt8) (B : Option Addr) (c : Nat), cs = [.int .i64 k, .int .u8 (n8 d), .slice B to.length c, .int .i64 n] ∧ (Lit.int .i64 k).wf = true ∧ (Lit.int .i64 n).wf = true ∧ Bytes W B to ∧ to.length ≤ c ∧ c ≤ 9223372036854775807 ∧ (B = none → c = 0) := by
  obtain ⟨xs, m, _, _, hl, hxl, hf⟩ := DataW.trod_struct Try.underlying51 h
  have hl4 : cs.length = 4 := hl.trans (by kernel_rfl)
  obtain ⟨v0, v1, v2, v3, rfl⟩ := four hl4
  have hx4 : xs.length = 4 := hxl
  obtain ⟨x0, x1, x2, x3, rfl⟩ := four hx4
  have f0 := hf 0 _ rfl
  have f1 := hf 1 _ rfl
  have f2 := hf 2 _ rfl
  have f3 := hf 3 _ rfl
  have g0 : DataW.trod enc Try.prog W 0 (fun _ => true) true m 3 [v0] = some x0 := f0
  have g1 : DataW.trod enc Try.prog W 0 (fun _ => true) true m 5 [v1] = some x1 := f1
  have g2 : DataW.trod enc Try.prog W 0 (fun _ => true) true m 23 [v2] = some x2 := f2
  have g3 : DataW.trod enc Try.prog W 0 (fun _ => true) true m 3 [v3] = some x3 := f3
  clear f0 f1 f2 f3 hf h hl hxl
  obtain ⟨k, e0, _, hk⟩ := DataW.trod_int Try.underlying3 g0
  obtain ⟨d, e1, _, hd⟩ := DataW.trod_int Try.underlying5 g1
  obtain ⟨n, e3, _, hn⟩ := DataW.trod_int Try.underlying3 g3
  simp only [List.cons.injEq, and_true] at e0 e1 e3
  subst e0 e1 e3
  have hb := bounds_u8 hd
  have hd2 : d = n8 (UInt8.ofNat d.toNat) := by
    unfold n8
    rw [UInt8.toNat_ofNat', Nat.mod_eq_of_lt (by omega), Int.toNat_of_nonneg hb.1]
  rcases Go.ChangeShapes.open_ints Try.underlying23 Try.underlying5 (by kernel_rfl) g2 with ⟨hcs, hx⟩ | ⟨a, l, c, zs, hcs, _, hl, hm, hz, hx, hcell, hwz⟩
  · simp only [List.cons.injEq, and_true] at hcs
    subst hcs
    exact ⟨k, n, _, [], none, 0, by rw [← hd2]; rfl, hk, hn, Bytes.nil _ _, by simp, by omega, fun _ => rfl⟩
  · simp only [List.cons.injEq, and_true] at hcs
    subst hcs
    simp only [if_true] at hz
    obtain ⟨p, hp, hpp⟩ := bytes_ints hwz
    have hll : (p.take l).length = l := by simp; omega
    refine ⟨k, n, _, p.take l, some a, c, by rw [← hd2, hll], hk, hn, fun h0 => ?_, by rw [hll]; exact hl, by simpa [maxLen] using hm, fun h => by cases h⟩
    rw [hll] at h0
    obtain ⟨b, off, rfl⟩ := spot_of (hcell 0 (by omega))
    refine ⟨b, off, rfl, fun j hj => ?_⟩
    rw [hll] at hj
    have hcj := hcell j (by omega)
    rw [addr_add, hpp j (by omega)] at hcj
    rw [hcj]
    simp [List.getD_eq_getElem?_getD, List.getElem?_take, hj, v8]
set_option maxRecDepth 100000 in
theorem open_ops {v : Value} {r : Reach} {b0 : Nat} {d : DataW H} {pl : List MemPlace} (hv : Value.okWide Try.prog W r b0 49 v) (h : DataW.Trod enc Try.prog W 0 (fun _ => true) true 49 v d pl) :
    ∃ (A : Option Addr) (len cap : Nat) (O : List OpV), v = .slice A len cap ∧ O.length = len ∧ OpsIn W A O ∧ SliceIn d len cap := by
  obtain ⟨A, len, cap, rfl⟩ := Go.WideShapes.okWide_slice Try.underlying49 hv
  obtain ⟨fuel, hf⟩ := h
  rcases Go.Deep.open_slice Try.underlying49 hf with ⟨hcs, hx⟩ | ⟨a, len', cap', m, n, D, Pl, hcs, _, hl, hm, hmm, hx, hel⟩
  · simp [Value.cells] at hcs
    obtain ⟨rfl, rfl, rfl⟩ := hcs
    simp only [Prod.mk.injEq] at hx
    exact ⟨none, 0, 0, [], rfl, rfl, fun r hr => by simp at hr, by omega, by simp [maxLen], .inl ⟨hx.1, rfl⟩⟩
  · simp [Value.cells] at hcs
    obtain ⟨rfl, rfl, rfl⟩ := hcs
    simp only [if_true] at hmm
    subst hmm
    have h4 : Try.prog.cellsOf 51 = 4 := by kernel_rfl
    have each : ∀ i, i < m → ∃ (x : OpV), ∃ b off, a = ⟨b, off, none⟩ ∧ OpAt W b (off + i * 4) x := by
      intro i hi
      obtain ⟨cs', h1, h2⟩ := hel i hi
      obtain ⟨k, nn, dd, to, B, c, rfl, hk, hn, hB⟩ := open_op h2
      rw [h4] at h1
      obtain ⟨_, _, h3⟩ := World.cells?_some h1
      have k0 := h3 0 (by omega)
      have k1 := h3 1 (by omega)
      have k2 := h3 2 (by omega)
      have k3 := h3 3 (by omega)
      rw [Go.Deep.add_add] at k0 k1 k2 k3
      have hsp : ∃ b off, a = ⟨b, off, none⟩ := by
        obtain ⟨cz, z1, z2⟩ := hel 0 (by omega)
        rw [h4] at z1
        obtain ⟨_, zl, z3⟩ := World.cells?_some z1
        have z0 := z3 0 (by omega)
        rw [Go.Deep.add_add, Nat.zero_mul, List.getElem?_eq_getElem (by omega)] at z0
        exact spot_of z0
      obtain ⟨b, off, rfl⟩ := hsp
      rw [addr_add] at k0 k1 k2 k3
      exact ⟨⟨k, dd, to, nn⟩, b, off, rfl, k0, k1, ⟨B, c, k2, hB⟩, k3, hk, hn⟩
    have hinh : Inhabited OpV := ⟨opZ⟩
    obtain ⟨f, hff⟩ := Go.Deep.choose_lt each
    refine ⟨some a, len, m, (List.range len).map f, rfl, by simp, fun r hr => ?_, hl, hm, .inr ⟨_, _, (Prod.mk.inj hx).1, by simp; omega⟩⟩
    simp at hr
    obtain ⟨b, off, rfl, hop⟩ := hff r (by omega)
    have e : ((List.range len).map f).getD r opZ = f r := by simp [List.getD_eq_getElem?_getD, hr]
    rw [e]
    exact ⟨b, off, rfl, hop⟩
end
end Go.Proofs.Ytnlnkojcbjaeeaa
