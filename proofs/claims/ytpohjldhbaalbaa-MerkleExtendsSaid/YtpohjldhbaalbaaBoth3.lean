/- The struct Both: two sums, a slice, a bool: built, stored, read. -/
import Derived.Test.YtpohjldhbaalbaaUp3
import Derived.Test.YtpohjldhbaalbaaGrowLaw
import Derived.Laws.Tables
namespace Go.Proofs.Ytpohjldhbaalbaa
set_option linter.unusedVariables false
set_option linter.unusedSimpArgs false
set_option linter.unusedSectionVars false
open Go.RowKit
set_option linter.unusedVariables false

def bothC (a b : List UInt8) (s : Value) (ok : Bool) : List Value := c8 a ++ (c8 b ++ [s, .bool ok])
theorem bothC_length (a b : List UInt8) (s : Value) (ok : Bool) (ha : a.length = 32) (hb : b.length = 32) : (bothC a b s ok).length = 66 := by simp [bothC, ha, hb]
def bothZ : List Value := bothC zeros32 zeros32 (.slice none 0 0) false
theorem fold_splice (off : Nat) (cs : List Value) (z : Array Value) (h : off + cs.length ≤ z.size) :
    (cs.zipIdx.foldl (fun (acc : Array Value) (x : Value × Nat) => acc.setIfInBounds (off + x.2) x.1) z) = (splice z.toList off cs).toArray := by
  obtain ⟨h1, h2⟩ := Great.foldl_set off cs 0 z
  apply Array.ext_getElem?
  intro k
  rw [h2 k]
  have hz : z.toList.length = z.size := by simp
  simp only [List.getElem?_toArray, splice]
  by_cases ha : k < off
  · rw [if_neg (by omega), List.getElem?_append_left (by simp; omega), List.getElem?_take, if_pos ha]; simp
  · by_cases hb : k < off + cs.length
    · rw [if_pos (by omega), List.getElem?_append_right (by simp; omega), List.getElem?_append_left (by simp; omega)]
      simp only [List.length_take, hz]
      congr 1
      omega
    · rw [if_neg (by omega), List.getElem?_append_right (by simp; omega), List.getElem?_append_right (by simp; omega), List.getElem?_drop]
      simp only [List.length_take, hz]
      rw [show off + cs.length + (k - min off z.size - cs.length) = k by omega]
      simp
theorem fold_splice' (off : Nat) (cs : List Value) (z : Array Value) (h : off + cs.length ≤ z.size) :
    (cs.toArray.zipIdx.foldl (fun (acc : Array Value) (x : Value × Nat) => acc.setIfInBounds (off + x.2) x.1) z) = (splice z.toList off cs).toArray := by
  rw [← fold_splice off cs z h, ← Array.foldl_toList]
  simp
theorem fill_one (places : Nat → Option (Nat × Nat)) (i off size : Nat) (v : Value) (cs : List Value) (z : Array Value) (rest : List (Nat × Value)) (hp : places i = some (off, size)) (hv : v.cells = cs.toArray) (hs : cs.length = size) (h : off + size ≤ z.size) :
    Instr.fill places z ((i, v) :: rest) = Instr.fill places (splice z.toList off cs).toArray rest := by
  conv => lhs; unfold Instr.fill
  rw [hp]
  simp only [hv, List.size_toArray]
  rw [if_neg (by simp [hs]; omega), fold_splice' off cs z (by omega)]
set_option maxRecDepth 100000 in
theorem built_both (a b : List UInt8) (s : Value) (ok : Bool) (ha : a.length = 32) (hb : b.length = 32) (hs : s.cells = #[s]) :
    Try.prog.built 50 [(0, .agg (c8 a).toArray), (1, .agg (c8 b).toArray), (2, s), (3, .bool ok)] = some (bothC a b s ok).toArray := by
  have hplaces : ∃ places : Array (Nat × Nat), places = #[(0, 32), (32, 32), (64, 1), (65, 1)] ∧ Try.prog.built 50 [(0, .agg (c8 a).toArray), (1, .agg (c8 b).toArray), (2, s), (3, .bool ok)] = Instr.fill (places[·]?) bothZ.toArray [(0, .agg (c8 a).toArray), (1, .agg (c8 b).toArray), (2, s), (3, .bool ok)] := ⟨_, rfl, by kernel_rfl⟩
  obtain ⟨places, hp, e⟩ := hplaces
  rw [e]
  have hz : bothZ.length = 66 := rfl
  rw [fill_one _ 0 0 32 (.agg (c8 a).toArray) (c8 a) _ _ (by rw [hp]; rfl) rfl (by simp [ha]) (by simp [hz])]
  have l1 : (splice bothZ 0 (c8 a)).length = 66 := by simp [splice, hz, ha]
  rw [fill_one _ 1 32 32 (.agg (c8 b).toArray) (c8 b) _ _ (by rw [hp]; rfl) rfl (by simp [hb]) (by simp [l1])]
  have l2 : (splice (splice bothZ 0 (c8 a)) 32 (c8 b)).length = 66 := by simp [splice, hz, ha, hb]
  rw [fill_one _ 2 64 1 s [s] _ _ (by rw [hp]; rfl) hs rfl (by simp [l2])]
  have l3 : (splice (splice (splice bothZ 0 (c8 a)) 32 (c8 b)) 64 [s]).length = 66 := by simp [splice, hz, ha, hb]
  rw [fill_one _ 3 65 1 (.bool ok) [.bool ok] _ _ (by rw [hp]; rfl) rfl rfl (by simp [l3])]
  show some _ = some _
  congr 2
  have e0 : bothZ = c8 zeros32 ++ (c8 zeros32 ++ [.slice none 0 0, .bool false]) := rfl
  rw [e0]
  have ta : ∀ k, 32 ≤ k → List.take k (c8 a) = c8 a := fun k h => List.take_of_length_le (by simp [ha]; omega)
  have tb : ∀ k, 32 ≤ k → List.take k (c8 b) = c8 b := fun k h => List.take_of_length_le (by simp [hb]; omega)
  have da : ∀ k, 32 ≤ k → List.drop k (c8 a) = [] := fun k h => List.drop_of_length_le (by simp [ha]; omega)
  have db : ∀ k, 32 ≤ k → List.drop k (c8 b) = [] := fun k h => List.drop_of_length_le (by simp [hb]; omega)
  simp [splice, ha, hb, bothC, zeros32, List.take_append, List.drop_append, ta, tb, da, db]
theorem info_both (l : List Value) (h : l.length = 66) : (Try.prog.info? 50).map (·.size) = some l.length := by rw [h]; kernel_rfl
theorem alloc_both (W : World) : (Instr.alloc 50 true (.tuple #[])).run Try.prog W = .ok (.pointer (some ⟨W.heap.size, 0, none⟩)) (W.alloc (.cells bothZ.toArray 50)) := by kernel_rfl
theorem one_both (a b : List UInt8) (A : Option Addr) (n c : Nat) (ok : Bool) : ∀ u ∈ bothC a b (.slice A n c) ok, u.oneCell' = true := by
  intro u hu
  simp only [bothC, List.mem_append, List.mem_cons, List.not_mem_nil, or_false] at hu
  rcases hu with h | h | h | h
  · exact one8 a u h
  · exact one8 b u h
  · rw [h]; rfl
  · rw [h]; rfl
section
variable {w : World} {g : Nat} {t : TypeId} {a b : List UInt8} {s : Value} {ok : Bool}
theorem both_old (h : Row w g t (bothC a b s ok)) : ∀ j u, (c8 a)[j]? = some u → w.cell? ((⟨g, 0, none⟩ : Addr).add j) = some u := by
  intro j u hu
  rw [addr_add, Nat.zero_add, h.cell, bothC, List.getElem?_append_left (List.getElem?_eq_some_iff.1 hu).1]; exact hu
theorem both_new (h : Row w g t (bothC a b s ok)) (ha : a.length = 32) : ∀ j u, (c8 b)[j]? = some u → w.cell? ((⟨g, 32, none⟩ : Addr).add j) = some u := by
  intro j u hu
  have hj := (List.getElem?_eq_some_iff.1 hu).1
  rw [addr_add, h.cell, bothC, List.getElem?_append_right (by simp; omega), c8_length, ha, show 32 + j - 32 = j by omega, List.getElem?_append_left hj]; exact hu
theorem both_rest (h : Row w g t (bothC a b s ok)) (ha : a.length = 32) (hb : b.length = 32) : w.cell? ⟨g, 64, none⟩ = some s := by
  rw [h.cell, bothC, List.getElem?_append_right (by simp [ha]), List.getElem?_append_right (by simp [ha, hb])]; simp [ha, hb]
theorem both_ok (h : Row w g t (bothC a b s ok)) (ha : a.length = 32) (hb : b.length = 32) : w.cell? ⟨g, 65, none⟩ = some (.bool ok) := by
  rw [h.cell, bothC, List.getElem?_append_right (by simp [ha]), List.getElem?_append_right (by simp [ha, hb])]; simp [ha, hb]
end
section
variable {P : Program}
theorem wp_cell {w : World} {ops : Array Oper} {rest : List Oper} {o : Oper} {a : Act} {Q : Exit → Act → World → Prop} (hgd : Region.wanted o (yielded ops a.tmps) = true) (ty : TypeId) (x : Operand) (ho : o.op = .load ty x)
    {d : TypeDesc} (hu : P.underlying ty = some d) (hd : isAggD d = false) (ad : Addr) (hx : a.eval x = .pointer (some ad)) (v : Value) (hc : w.cell? ad = some v)
    (h : wpList P ops Q rest (a.put o.dst v) w) : wpList P ops Q (o :: rest) a w :=
  wp_val hgd _ (run_load_cell ty x ho hu hd ad hx v hc) h
theorem run_build_op {w : World} {o : Oper} {a : Act} (t : TypeId) (parts : Array (Nat × Operand)) (ho : o.op = .build t parts) (l : List (Nat × Value)) (hl : parts.toList.map (fun p => (p.1, a.eval p.2)) = l) (cs : Array Value)
    (hb : P.built t l = some cs) : (execOp a.eval o).run P w = .ok (.value (.agg cs)) w := by
  have hl' : (parts.map fun (i, x) => (i, a.eval x)).toList = l := by rw [Array.toList_map]; exact hl
  rw [← hl'] at hb
  simp only [execOp, ho, Sem.run_bind, run_build w t _ cs hb, Result.andThen_ok, Sem.run_pure]
theorem wp_built {w : World} {ops : Array Oper} {rest : List Oper} {o : Oper} {a : Act} {Q : Exit → Act → World → Prop} (hgd : Region.wanted o (yielded ops a.tmps) = true) (t : TypeId) (parts : Array (Nat × Operand)) (ho : o.op = .build t parts) (l : List (Nat × Value)) (hl : parts.toList.map (fun p => (p.1, a.eval p.2)) = l) (cs : Array Value)
    (hb : P.built t l = some cs) (h : wpList P ops Q rest (a.put o.dst (.agg cs)) w) : wpList P ops Q (o :: rest) a w :=
  wp_val hgd _ (run_build_op t parts ho l hl cs hb) h
end
theorem built_none : Try.prog.built 50 [] = some bothZ.toArray := by kernel_rfl
end Go.Proofs.Ytpohjldhbaalbaa
