/- Words for memory: a block that is known whole. -/
import Derived.Test.YtpohjldhbaalbaaSha
import Derived.Laws.OwnMore
import Derived.Deep.Draws
import Derived.Laws.CopyOwn
namespace Go.Proofs.Ytpohjldhbaalbaa
set_option linter.unusedVariables false
set_option linter.unusedSimpArgs false
set_option linter.unusedSectionVars false
open Go.RowKit

/-- Block g holds just the cells cs, of element type t, none of them frozen. -/
def Row (w : World) (g : Nat) (t : TypeId) (cs : List Value) : Prop := w.heap[g]? = some (.cells cs.toArray t (0, 0))
def v8 (x : UInt8) : Value := .int .u8 (n8 x)
def v32 (x : UInt32) : Value := .int .u32 (n32 x)
def c8 (l : List UInt8) : List Value := l.map v8
def c32 (l : List UInt32) : List Value := l.map v32
@[simp] theorem c8_length (l : List UInt8) : (c8 l).length = l.length := by simp [c8]
@[simp] theorem c32_length (l : List UInt32) : (c32 l).length = l.length := by simp [c32]
theorem c8_get (l : List UInt8) (i : Nat) (h : i < l.length) : (c8 l)[i]? = some (.int .u8 (n8 (l.getD i 0))) := by
  simp [c8, h, v8]
theorem c32_get (l : List UInt32) (i : Nat) (h : i < l.length) : (c32 l)[i]? = some (.int .u32 (n32 (l.getD i 0))) := by
  simp [c32, h, v32]
theorem c32_set (l : List UInt32) (i : Nat) (x : UInt32) : (c32 l).set i (.int .u32 (n32 x)) = c32 (l.set i x) := by
  simp only [c32, List.map_set]; rfl
theorem c8_set (l : List UInt8) (i : Nat) (x : UInt8) : (c8 l).set i (.int .u8 (n8 x)) = c8 (l.set i x) := by
  simp only [c8, List.map_set]; rfl

section
variable {w w' : World} {g : Nat} {t : TypeId} {cs : List Value}
theorem Row.lt (h : Row w g t cs) : g < w.heap.size := by
  unfold Row at h
  exact (Array.getElem?_eq_some_iff.1 h).1
theorem Row.cell (h : Row w g t cs) (i : Nat) : w.cell? ⟨g, i, none⟩ = cs[i]? := by
  unfold Row at h; simp [World.cell?, h]
theorem Row.frozen (h : Row w g t cs) (i : Nat) : w.frozen? ⟨g, i, none⟩ = false := by
  unfold Row at h; simp [World.frozen?, h]
theorem Row.new (w : World) (t : TypeId) (cs : List Value) : Row (w.alloc (.cells cs.toArray t)) w.heap.size t cs := by
  show (w.heap.push _)[w.heap.size]? = _
  simp
theorem Row.drew (h : Row w g t cs) : Row w.drew g t cs := h
theorem Row.drewN (h : Row w g t cs) (n : Nat) : Row (w.drewN n) g t cs := h
theorem Row.alloc (h : Row w g t cs) (o : Obj) : Row (w.alloc o) g t cs := (Below.heap_alloc w o g h.lt).trans h
theorem Row.set (h : Row w g t cs) (i : Nat) (u : Value) : Row (w.setCell ⟨g, i, none⟩ u) g t (cs.set i u) := by
  unfold Row at h ⊢
  simp [World.setCell, Array.getElem?_modify, h]
theorem Row.far (h : Row w g t cs) {p : Addr} (hp : g ≠ p.block) (u : Value) : Row (w.setCell p u) g t cs := (Below.heap_setCell w p u g hp).trans h
theorem Row.below {B : Nat} (h : Row w g t cs) (hb : Below B w w') (hg : g < B) : Row w' g t cs := (hb.block g hg).trans h
theorem Row.grown {row : Option Nat} (h : Row w g t cs) (hb : w.grownBy w' row) (hg : some g ≠ row) : Row w' g t cs := (hb.block g h.lt hg).trans h
end

/-! ### what is left alone: 'grownBy' -/
section
variable {a b c w w' : World} {row : Option Nat}
theorem grownBy_refl (w : World) (row : Option Nat) : w.grownBy w row := ⟨rfl, rfl, rfl, Nat.le_refl _, fun _ _ _ => rfl⟩
theorem grownBy_trans (h : a.grownBy b row) (k : b.grownBy c row) : a.grownBy c row :=
  ⟨k.os.trans h.os, k.tape.trans h.tape, k.output.trans h.output, Nat.le_trans h.size k.size, fun i hi hr => (k.block i (Nat.lt_of_lt_of_le hi h.size) hr).trans (h.block i hi hr)⟩
theorem grownBy_weaken (h : w.grownBy w' none) (row : Option Nat) : w.grownBy w' row := ⟨h.os, h.tape, h.output, h.size, fun i hi _ => h.block i hi (by simp)⟩
theorem grownBy_drew (h : a.grownBy w row) : a.grownBy w.drew row := ⟨h.os, h.tape, h.output, h.size, h.block⟩
theorem grownBy_drewN (h : a.grownBy w row) (n : Nat) : a.grownBy (w.drewN n) row := ⟨h.os, h.tape, h.output, h.size, h.block⟩
theorem grownBy_alloc' (h : a.grownBy w row) (o : Obj) : a.grownBy (w.alloc o) row := grownBy_trans h (World.grownBy_alloc w o row)
theorem grownBy_set (h : a.grownBy w row) {p : Addr} (hp : a.heap.size ≤ p.block ∨ row = some p.block) (u : Value) : a.grownBy (w.setCell p u) row :=
  ⟨h.os, h.tape, h.output, by simpa [World.setCell] using h.size, fun i hi hr => (Below.heap_setCell w p u i (by
    rcases hp with hp | hp
    · omega
    · intro e; subst e; exact hr hp.symm)).trans (h.block i hi hr)⟩
theorem grownBy_in (h : a.grownBy w row) {i : Nat} (k : w.grownBy w' (some i)) (hi : a.heap.size ≤ i) : a.grownBy w' row :=
  ⟨k.os.trans h.os, k.tape.trans h.tape, k.output.trans h.output, Nat.le_trans h.size k.size, fun j hj hr => (k.block j (Nat.lt_of_lt_of_le hj h.size) (by intro e; injection e with e; omega)).trans (h.block j hj hr)⟩
theorem grownBy_below (h : w.grownBy w' none) : Below w.heap.size w w' := ⟨h.os, h.tape, h.output, h.size, fun k hk => h.block k hk (by simp)⟩
theorem grownBy_of_below (h : Below w.heap.size w w') : w.grownBy w' none := ⟨h.os, h.tape, h.output, h.size, fun k hk _ => h.block k hk⟩
theorem grownBy_cell (h : a.grownBy w row) {p : Addr} {v : Value} (hv : a.cell? p = some v) (hr : some p.block ≠ row) : w.cell? p = some v := h.cell hv hr
end

theorem grownBy_setRow (w : World) (g : Nat) (cs : Array Value) : w.grownBy (w.setRow g cs) (some g) :=
  ⟨rfl, rfl, rfl, by simp [World.setRow], fun k _ hk => setRow_other w g k cs (by intro e; exact hk (by rw [e]))⟩
theorem Row.setRow {w : World} {g : Nat} {t : TypeId} {cs : List Value} (h : Row w g t cs) (new : List Value) : Row (w.setRow g new.toArray) g t new :=
  setRow_heap w g _ _ t _ h

/-- The builtin copy into a block that is known whole. -/
theorem wp_copy {P : Program} {w : World} {ops : Array Oper} {rest : List Oper} {o : Oper} {a : Act} {Q : Exit → Act → World → Prop} (hgd : o.guard = none) (d s : Operand) (dT sT : TypeId)
    (ho : o.op = .call { callee := .builtin .copy, args := #[d, s], argTypes := #[dT, sT] }) (elem : TypeId) (hu : P.underlying dT = some (.slice elem)) (hsz : (P.info? elem).map (·.size) = some 1)
    (dp sp : Option Addr) (dLen dCap sLen sCap : Nat) (hd : a.eval d = .slice dp dLen dCap) (hs : a.eval s = .slice sp sLen sCap)
    (g off : Nat) (cur : List Value) (t : TypeId) (hg : Row w g t cur) (cs : List Value) (hn : cs.length = Nat.min sLen dLen)
    (hpos : 0 < cs.length → dp = some ⟨g, off, none⟩ ∧ ∃ ad, sp = some ad ∧ ∀ j v, cs[j]? = some v → w.cell? (ad.add j) = some v)
    (hfit : off + cs.length ≤ cur.length) (h1 : ∀ v ∈ cs, v.oneCell' = true)
    (h : ∀ w', Row w' g t (splice cur off cs) → w.grownBy w' (some g) → wpList P ops Q rest (a.put o.dst (goInt cs.length)) w') :
    wpList P ops Q (o :: rest) a w := by
  by_cases h0 : cs.length = 0
  · obtain rfl : cs = [] := List.eq_nil_of_length_eq_zero h0
    refine wpList_copy_nothing hgd d s dT sT ho elem hu hsz dp sp dLen dCap sLen sCap hd hs (by simpa using hn.symm) ?_
    exact h w (by simpa [splice] using hg) (grownBy_refl _ _)
  · obtain ⟨rfl, ad, rfl, hsrc⟩ := hpos (by omega)
    refine wpList_copy_own hgd d s dT sT ho elem hu hsz g off dLen dCap ad sLen sCap hd hs cur.toArray t hg cs hn hsrc (by simpa using hfit) h1 ?_
    have hr := hg.setRow (splice cur off cs)
    have hb := grownBy_setRow w g (splice cur off cs).toArray
    simp only [splice] at hr hb h
    exact h _ (by simpa using hr) (by simpa using hb)

/-! ### bytes -/
theorem one32 (l : List UInt32) : ∀ u ∈ c32 l, u.oneCell' = true := by intro u hu; simp only [c32, List.mem_map] at hu; obtain ⟨x, _, rfl⟩ := hu; rfl
theorem one8 (l : List UInt8) : ∀ u ∈ c8 l, u.oneCell' = true := by intro u hu; simp only [c8, List.mem_map] at hu; obtain ⟨x, _, rfl⟩ := hu; rfl
/-- the cells of a slice of bytes that came in -/
def BytesAt (w : World) (b off : Nat) (p : List UInt8) : Prop := ∀ j, j < p.length → w.cell? ⟨b, off + j, none⟩ = some (.int .u8 (n8 (p.getD j 0)))
/-- A slice of bytes that reads as p. -/
def Bytes (w : World) (A : Option Addr) (p : List UInt8) : Prop := 0 < p.length → ∃ b off, A = some ⟨b, off, none⟩ ∧ BytesAt w b off p
theorem Bytes.keep {w w' : World} {A : Option Addr} {p : List UInt8} (h : Bytes w A p) (hg : w.grownBy w' none) : Bytes w' A p := by
  intro hp
  obtain ⟨b, off, hA, hc⟩ := h hp
  exact ⟨b, off, hA, fun j hj => hg.cell (hc j hj) (by simp)⟩
theorem Bytes.nil (w : World) (A : Option Addr) : Bytes w A [] := fun h => absurd h (by simp)
theorem Bytes.drewN {w : World} {A : Option Addr} {p : List UInt8} (h : Bytes w A p) (n : Nat) : Bytes (w.drewN n) A p := h
theorem Bytes.drew {w : World} {A : Option Addr} {p : List UInt8} (h : Bytes w A p) : Bytes w.drew A p := h
theorem take_snoc8 (p : List UInt8) (i : Nat) (h : i < p.length) : p.take (i + 1) = p.take i ++ [p.getD i 0] := by
  rw [List.take_add_one, List.getElem?_eq_getElem h]; simp [h]
theorem Bytes.at_ {w : World} {A : Option Addr} {p : List UInt8} (h : Bytes w A p) (hp : 0 < p.length) : ∃ b off, A = some ⟨b, off, none⟩ ∧ b < w.heap.size ∧ BytesAt w b off p := by
  obtain ⟨b, off, hA, hc⟩ := h hp
  exact ⟨b, off, hA, World.block_lt_of_cell? w _ (hc 0 hp), hc⟩
theorem c8_snoc (l : List UInt8) (x : UInt8) : c8 l ++ [.int .u8 (n8 x)] = c8 (l ++ [x]) := by simp [c8, v8]
end Go.Proofs.Ytpohjldhbaalbaa
