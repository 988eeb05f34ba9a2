/- Arguments opened: bytes, arrays of bytes (to any depth), slices of such. No program in sight. -/
import Derived.Test.YtpohjldhbaalbaaMem
import Derived.Test.YtpohjldhbaalbaaAgg
import Derived.Test.YtpohjldhbaalbaaInts
import Derived.ProofKit
import Derived.OpenShut
import Derived.Deep.Slices
import Derived.SizedLaws
namespace Go.Proofs.Ytpohjldhbaalbaa
set_option linter.unusedVariables false
set_option linter.unusedSimpArgs false
set_option linter.unusedSectionVars false
open Go.RowKit

section
variable {P : Program} {H : Type} {enc : TypeId × Value → H} {W : World} {base : Nat} {held : Bool} {spare : Nat → Bool}

/-- What is read at type t is n bytes. -/
def Flat8 (P : Program) (enc : TypeId × Value → H) (W : World) (base : Nat) (spare : Nat → Bool) (held : Bool) (n : Nat) (t : TypeId) : Prop :=
  ∀ (fuel : Nat) (cs : List Value) (x : DataW H × List MemPlace), DataW.trod enc P W base spare held fuel t cs = some x → ∃ l : List UInt8, l.length = n ∧ cs = c8 l
theorem flat8_u8 {e : TypeId} (hu : P.underlying e = some (.int .u8)) : Flat8 P enc W base spare held 1 e := by
  intro fuel cs x h
  obtain ⟨n, rfl, rfl, hw⟩ := DataW.trod_int hu h
  have hb := bounds_u8 hw
  refine ⟨[UInt8.ofNat n.toNat], rfl, ?_⟩
  simp only [c8, List.map_cons, List.map_nil, v8, n8]
  rw [UInt8.toNat_ofNat', Nat.mod_eq_of_lt (by omega), Int.toNat_of_nonneg hb.1]
theorem chunks8 (c : Nat) : ∀ (n : Nat) (cs : List Value), cs.length = n * c → (∀ i, i < n → ∃ l : List UInt8, l.length = c ∧ (cs.drop (i * c)).take c = c8 l) → ∃ l : List UInt8, l.length = n * c ∧ cs = c8 l
  | 0, cs, h, _ => ⟨[], by simp, by simpa [c8] using h⟩
  | n + 1, cs, h, hc => by
    obtain ⟨l, hl, e⟩ := hc 0 (by omega)
    rw [Nat.add_mul, Nat.one_mul] at h
    obtain ⟨m, hm, e2⟩ := chunks8 c n (cs.drop c) (by rw [List.length_drop, h]; omega) (fun i hi => by
      obtain ⟨l', hl', e'⟩ := hc (i + 1) (by omega)
      refine ⟨l', hl', ?_⟩
      rw [← e', List.drop_drop, Nat.add_mul, Nat.one_mul, Nat.add_comm])
    refine ⟨l ++ m, by rw [List.length_append, hl, hm, Nat.add_mul]; omega, ?_⟩
    have : cs = cs.take c ++ cs.drop c := (List.take_append_drop c cs).symm
    rw [this, e2]
    simp only [Nat.zero_mul, List.drop_zero] at e
    rw [e]; simp [c8]
theorem flat8_array {T e : TypeId} {n c : Nat} (hT : P.underlying T = some (.array n e)) (hc : P.cellsOf e = c) (hC : P.cellsOf T = n * c) (h : Flat8 P enc W base spare held c e) : Flat8 P enc W base spare held (n * c) T := by
  intro fuel cs x hx
  cases fuel with
  | zero => simp [DataW.trod] at hx
  | succ fuel =>
    simp only [DataW.trod, hT] at hx
    split at hx
    · rename_i hlen
      rw [hC] at hlen
      simp only [Option.map_eq_some_iff] at hx
      obtain ⟨ys, hys, _⟩ := hx
      rw [hc] at hys
      refine chunks8 c n cs hlen fun i hi => ?_
      have h1 := mapM_some_get hys i i (by simp [hi])
      have h2 := mapM_some_length hys
      rw [List.length_range] at h2
      rw [List.getElem?_eq_getElem (by omega)] at h1
      exact h fuel _ _ h1
    · cases hx

theorem c8_inj : ∀ {a b : List UInt8}, c8 a = c8 b → a = b
  | [], [], _ => rfl
  | [], _ :: _, h => by simp [c8] at h
  | _ :: _, [], h => by simp [c8] at h
  | x :: a, y :: b, h => by
    simp only [c8, List.map_cons, List.cons.injEq] at h
    have h1 : n8 x = n8 y := by have := h.1; simp only [v8] at this; injection this
    rw [n8_inj h1, c8_inj (a := a) (b := b) h.2]
theorem flat8_value {n : Nat} {T e : TypeId} {m : Nat} (hT : P.underlying T = some (.array m e)) (h : Flat8 P enc W base spare held n T) {r : Reach} {b0 : Nat} {v : Value} {d : DataW H} {p : List MemPlace} (hv : Value.okWide P W r b0 T v)
    (ht : DataW.Trod enc P W base spare held T v d p) : ∃ l : List UInt8, l.length = n ∧ v = .agg (c8 l).toArray := by
  unfold Value.okWide at hv
  rw [hT] at hv
  obtain ⟨cs, rfl, _, _⟩ := hv
  obtain ⟨fuel, hf⟩ := ht
  obtain ⟨l, hl, e1⟩ := h fuel _ _ hf
  refine ⟨l, hl, ?_⟩
  simp only [Value.cells] at e1
  rw [← e1]
/-- rows of n elements, each of c bytes: their bytes one behind the other -/
theorem rows_flat {w : World} {a : Addr} {c : Nat} : ∀ (n k : Nat), (∀ i, i < n → ∃ l : List UInt8, l.length = c ∧ ∀ j, j < c → w.cell? (a.add ((k + i) * c + j)) = some (v8 (l.getD j 0))) →
    ∃ p : List UInt8, p.length = n * c ∧ ∀ j, j < n * c → w.cell? (a.add (k * c + j)) = some (v8 (p.getD j 0))
  | 0, k, _ => ⟨[], by simp, fun j hj => by simp at hj⟩
  | n + 1, k, h => by
    obtain ⟨l, hl, h0⟩ := h 0 (by omega)
    obtain ⟨p, hp, h1⟩ := rows_flat n (k + 1) (fun i hi => by
      obtain ⟨l', hl', h'⟩ := h (i + 1) (by omega)
      refine ⟨l', hl', fun j hj => ?_⟩
      rw [← h' j hj, show k + 1 + i = k + (i + 1) from by omega])
    refine ⟨l ++ p, by rw [List.length_append, hl, hp, Nat.add_mul]; omega, fun j hj => ?_⟩
    rw [Nat.add_mul, Nat.one_mul] at hj
    by_cases hjc : j < c
    · have := h0 j hjc
      rw [Nat.add_zero] at this
      rw [this, List.getD_eq_getElem?_getD, List.getD_eq_getElem?_getD, List.getElem?_append_left (by omega)]
    · have := h1 (j - c) (by omega)
      rw [show (k + 1) * c + (j - c) = k * c + j from by rw [Nat.add_mul]; omega] at this
      rw [this, List.getD_eq_getElem?_getD, List.getD_eq_getElem?_getD, List.getElem?_append_right (by omega), hl]
/-- A slice that came in: its datum, its numbers. -/
structure SliceIn (d : DataW H) (len cap : Nat) : Prop where
  le : len ≤ cap
  most : cap ≤ maxLen
  datum : (d = .nil ∧ cap = 0) ∨ ∃ elems spare, d = .slice elems spare ∧ elems.length + spare.length = cap
theorem bytes_of_cells {w : World} {a : Addr} {p : List UInt8} (h : ∀ j, j < p.length → w.cell? (a.add j) = some (v8 (p.getD j 0))) : Bytes w (some a) p := by
  intro h0
  obtain ⟨b, off, spot⟩ := a
  have hc := h 0 h0
  have hspot : spot = none := by simpa [Addr.add] using World.cell?_spot hc
  subst hspot
  exact ⟨b, off, rfl, fun j hj => by have := h j hj; rw [addr_add] at this; exact this⟩
theorem open_slice8 {t e : TypeId} {c : Nat} (ht : P.underlying t = some (.slice e)) (hc : P.cellsOf e = c) (h8 : Flat8 P enc W 0 (fun _ => true) true c e) {v : Value} {r : Reach} {b0 : Nat} {d : DataW H} {pl : List MemPlace}
    (hv : Value.okWide P W r b0 t v) (h : DataW.Trod enc P W 0 (fun _ => true) true t v d pl) :
    ∃ (A : Option Addr) (len cap : Nat) (p : List UInt8), v = .slice A len cap ∧ p.length = len * c ∧ Bytes W A p ∧ SliceIn d len cap := by
  obtain ⟨A, len, cap, rfl⟩ := Go.WideShapes.okWide_slice ht hv
  obtain ⟨fuel, hf⟩ := h
  rcases Go.Deep.open_slice ht hf with ⟨hcs, hx⟩ | ⟨a, len', cap', m, n, D, Pl, hcs, _, hl, hm, hmm, hx, hel⟩
  · simp [Value.cells] at hcs
    obtain ⟨rfl, rfl, rfl⟩ := hcs
    simp only [Prod.mk.injEq] at hx
    exact ⟨none, 0, 0, [], rfl, by simp, Bytes.nil _ _, by omega, by simp [maxLen], .inl ⟨hx.1, rfl⟩⟩
  · simp [Value.cells] at hcs
    obtain ⟨rfl, rfl, rfl⟩ := hcs
    simp only [if_true] at hmm
    subst hmm
    obtain ⟨p, hp, hcell⟩ := rows_flat (w := W) (a := a) (c := c) len 0 (fun i hi => by
      obtain ⟨cs', h1, h2⟩ := hel i (by omega)
      obtain ⟨l, hl', rfl⟩ := h8 _ _ _ h2
      refine ⟨l, hl', fun j hj => ?_⟩
      rw [hc] at h1
      obtain ⟨_, _, h3⟩ := World.cells?_some h1
      have := h3 j hj
      rw [Go.Deep.add_add] at this
      rw [Nat.zero_add, this, c8_get l j (by omega)]; rfl)
    refine ⟨some a, len, _, p, rfl, hp, bytes_of_cells (fun j hj => by have := hcell j (by omega); rwa [Nat.zero_mul, Nat.zero_add] at this), hl, hm, .inr ⟨_, _, (Prod.mk.inj hx).1, ?_⟩⟩
    simp; omega
/-- the reach: a slice's bytes -/
theorem SliceIn.reach {ts : List TypeId} {ds : List (DataW H)} {d : DataW H} {len cap j : Nat} {t e : TypeId} (h : SliceIn d len cap) (hsz : (DataW.weightsEach P ts ds).all (· ≤ reachBytes) = true) (ht : ts[j]? = some t) (hd : ds[j]? = some d)
    (hu : P.underlying t = some (.slice e)) : cap * P.bytesOf e ≤ 140737488351232 := by
  rcases h.datum with ⟨_, h0⟩ | ⟨el, sp, rfl, hc⟩
  · rw [h0]; omega
  · have := sized_slice hsz ht hd hu
    rw [hc] at this
    exact this
theorem spot_of {w : World} {a : Addr} {v : Value} (h : w.cell? (a.add 0) = some v) : ∃ b off, a = ⟨b, off, none⟩ := by
  obtain ⟨b, off, spot⟩ := a
  have hspot : spot = none := by simpa [Addr.add] using World.cell?_spot h
  subst hspot
  exact ⟨b, off, rfl⟩
theorem open_slice_ints {t e : TypeId} {k : IntKind} (ht : P.underlying t = some (.slice e)) (he : P.underlying e = some (.int k)) (hc : P.cellsOf e = 1) {v : Value} {r : Reach} {b0 : Nat} {d : DataW H} {pl : List MemPlace}
    (hv : Value.okWide P W r b0 t v) (h : DataW.Trod enc P W 0 (fun _ => true) true t v d pl) :
    ∃ (A : Option Addr) (len cap : Nat) (z : List Int), v = .slice A len cap ∧ z.length = len ∧ Ints k W A z ∧ (∀ n ∈ z, (Lit.int k n).wf = true) ∧ SliceIn d len cap := by
  obtain ⟨A, len, cap, rfl⟩ := Go.WideShapes.okWide_slice ht hv
  obtain ⟨fuel, hf⟩ := h
  rcases Go.ChangeShapes.open_ints ht he hc hf with ⟨hcs, hx⟩ | ⟨a, l, c, zs, hcs, _, hl, hm, hz, hx, hcell, hwz⟩
  · simp [Value.cells] at hcs
    obtain ⟨rfl, rfl, rfl⟩ := hcs
    simp only [Prod.mk.injEq] at hx
    exact ⟨none, 0, 0, [], rfl, rfl, fun h => by simp at h, by simp, by omega, by simp [maxLen], .inl ⟨hx.1, rfl⟩⟩
  · simp [Value.cells] at hcs
    obtain ⟨rfl, rfl, rfl⟩ := hcs
    simp only [if_true] at hz
    have hll : (zs.take len).length = len := by simp; omega
    refine ⟨some a, len, cap, zs.take len, rfl, hll, fun h0 => ?_, fun n hn => hwz n (List.mem_of_mem_take hn), hl, hm, .inr ⟨_, _, (Prod.mk.inj hx).1, by simp [Go.ChangeShapes.lits]; omega⟩⟩
    obtain ⟨b, off, rfl⟩ := spot_of (hcell 0 (by omega))
    refine ⟨b, off, rfl, World.block_lt_of_cell? W _ (by have := hcell 0 (by omega); rw [addr_add] at this; exact this), fun i hi => ?_⟩
    have := hcell i (by omega)
    rw [addr_add] at this
    rw [this]
    have hil : i < len := by omega
    simp [List.getD_eq_getElem?_getD, List.getElem?_take, hil]
theorem open_slice_bools {t e : TypeId} (ht : P.underlying t = some (.slice e)) (he : P.underlying e = some .bool) (hc : P.cellsOf e = 1) {v : Value} {r : Reach} {b0 : Nat} {d : DataW H} {pl : List MemPlace}
    (hv : Value.okWide P W r b0 t v) (h : DataW.Trod enc P W 0 (fun _ => true) true t v d pl) :
    ∃ (A : Option Addr) (len cap : Nat) (z : List Bool), v = .slice A len cap ∧ z.length = len ∧ Bools W A z ∧ SliceIn d len cap := by
  obtain ⟨A, len, cap, rfl⟩ := Go.WideShapes.okWide_slice ht hv
  obtain ⟨fuel, hf⟩ := h
  rcases Go.Deep.open_slice1 ht hc hf with ⟨hcs, hx⟩ | ⟨a, l, c, m, n, V, D, Pl, hcs, _, hl, hm, hmm, hx, hel⟩
  · simp [Value.cells] at hcs
    obtain ⟨rfl, rfl, rfl⟩ := hcs
    simp only [Prod.mk.injEq] at hx
    exact ⟨none, 0, 0, [], rfl, rfl, fun h => by simp at h, by omega, by simp [maxLen], .inl ⟨hx.1, rfl⟩⟩
  · simp [Value.cells] at hcs
    obtain ⟨rfl, rfl, rfl⟩ := hcs
    simp only [if_true] at hmm
    obtain ⟨f, hf2⟩ : ∃ f : Nat → Bool, ∀ i, i < m → W.cell? (a.add i) = some (.bool (f i)) := Go.Deep.choose_lt (p := fun i b => W.cell? (a.add i) = some (.bool b)) (fun i hi => by
      obtain ⟨h1, h2⟩ := hel i hi
      obtain ⟨b, h3, _⟩ := DataW.trod_bool he h2
      simp only [List.cons.injEq, and_true] at h3
      exact ⟨b, by rw [h1, h3]⟩)
    refine ⟨some a, len, cap, (List.range len).map f, rfl, by simp, fun h0 => ?_, hl, hm, .inr ⟨_, _, (Prod.mk.inj hx).1, by simp; omega⟩⟩
    simp at h0
    obtain ⟨b, off, rfl⟩ := spot_of (hf2 0 (by omega))
    refine ⟨b, off, rfl, World.block_lt_of_cell? W _ (by have := hf2 0 (by omega); rw [addr_add] at this; exact this), fun i hi => ?_⟩
    simp at hi
    have := hf2 i (by omega)
    rw [addr_add] at this
    rw [this]
    simp [List.getD_eq_getElem?_getD, hi]
end
end Go.Proofs.Ytpohjldhbaalbaa
