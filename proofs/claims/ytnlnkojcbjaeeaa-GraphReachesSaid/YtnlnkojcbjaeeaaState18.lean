/- Put in terms of nodes and edges; slices built under a guard. -/
import Derived.Test.YtnlnkojcbjaeeaaReach18
namespace Go.Proofs.Ytnlnkojcbjaeeaa
set_option linter.unusedVariables false
set_option linter.unusedSimpArgs false
set_option linter.unusedSectionVars false
open Go.RowKit
set_option linter.unusedVariables false
section
variable {P : Program} {w : World} {ops : Array Oper} {rest : List Oper} {o : Oper} {a : Act} {Q : Exit → Act → World → Prop}
theorem wp_builtG1 (hgd : Region.wanted o (yielded ops a.tmps) = true) (t : TypeId) (x : Operand) (ho : o.op = .buildSlice t 1 #[(0, x)])
    (e : TypeId) (hu : P.underlying t = some (.slice e)) (s : Nat) (hi : (P.info? e).map (fun i => (i.zero.isSome, i.size)) = some (true, s)) (hs : 0 < s) (hs2 : s ≤ 4096) (cs : List Value) (hl : cs.length = s) (hx : a.eval x = .agg cs.toArray)
    (h : ∀ w', Row w' w.heap.size e cs → w.grownBy w' none → wpList P ops Q rest (a.put o.dst (.slice (some ⟨w.heap.size, 0, none⟩) 1 1)) w') : wpList P ops Q (o :: rest) a w := by
  cases hq : P.info? e with
  | none => simp [hq] at hi
  | some i =>
    simp only [hq, Option.map_some, Option.some.injEq, Prod.mk.injEq] at hi
    obtain ⟨z, hz⟩ := Option.isSome_iff_exists.1 hi.1
    have hc : (Value.agg cs.toArray).cells.size = s := by simp [Value.cells, hl]
    have hfill := Go.Great.fill_whole hs [.agg cs.toArray] ((Array.range (1 * s)).map (z.cells[· % z.cells.size]!)) (fun v hv => by rw [List.mem_singleton.1 hv]; exact hc) (by simp)
    have e1 : (([Value.agg cs.toArray] : List Value).flatMap fun v => v.cells.toList).toArray = cs.toArray := by simp [Value.cells]
    rw [e1] at hfill
    refine wpList_wanted hgd fun K hK => wp_buildSlice t e 1 #[(0, x)] ho cs.toArray i z hu hq hz (by rw [hi.2]; omega) (by rw [hi.2]; omega) (by rw [hi.2]; simpa [hx] using hfill) (hK _ _ ?_)
    exact h _ (Row.new w e cs) (World.grownBy_alloc _ _ none)
theorem wp_builtG2 (hgd : Region.wanted o (yielded ops a.tmps) = true) (t : TypeId) (x y : Operand) (ho : o.op = .buildSlice t 2 #[(0, x), (1, y)])
    (e : TypeId) (hu : P.underlying t = some (.slice e)) (s : Nat) (hi : (P.info? e).map (fun i => (i.zero.isSome, i.size)) = some (true, s)) (hs : 0 < s) (hs2 : s ≤ 4096) (cs ds : List Value) (hl : cs.length = s) (hl2 : ds.length = s) (hx : a.eval x = .agg cs.toArray) (hy : a.eval y = .agg ds.toArray)
    (h : ∀ w', Row w' w.heap.size e (cs ++ ds) → w.grownBy w' none → wpList P ops Q rest (a.put o.dst (.slice (some ⟨w.heap.size, 0, none⟩) 2 2)) w') : wpList P ops Q (o :: rest) a w := by
  cases hq : P.info? e with
  | none => simp [hq] at hi
  | some i =>
    simp only [hq, Option.map_some, Option.some.injEq, Prod.mk.injEq] at hi
    obtain ⟨z, hz⟩ := Option.isSome_iff_exists.1 hi.1
    have hfill := Go.Great.fill_whole hs [.agg cs.toArray, .agg ds.toArray] ((Array.range (2 * s)).map (z.cells[· % z.cells.size]!))
      (fun v hv => by simp at hv; rcases hv with rfl | rfl <;> simp [Value.cells, hl, hl2]) (by simp)
    have e1 : (([Value.agg cs.toArray, .agg ds.toArray] : List Value).flatMap fun v => v.cells.toList).toArray = (cs ++ ds).toArray := by simp [Value.cells]
    rw [e1] at hfill
    refine wpList_wanted hgd fun K hK => wp_buildSlice t e 2 #[(0, x), (1, y)] ho (cs ++ ds).toArray i z hu hq hz (by rw [hi.2]; omega) (by rw [hi.2]; omega) (by rw [hi.2]; simpa [hx, hy] using hfill) (hK _ _ ?_)
    exact h _ (Row.new w e _) (World.grownBy_alloc _ _ none)
end
theorem rows_of_row {w : World} {g : Nat} {t : TypeId} {L : List (List UInt8)} (h : Row w g t (c8 L.flatten)) (hL : L32 L) : Rows32 w (some ⟨g, 0, none⟩) L.length L := by
  refine ⟨hL, Nat.le_refl _, (fun h => by cases h), fun h0 => ⟨g, 0, rfl, fun j hj => ?_⟩⟩
  rw [Nat.zero_add, h.cell, c8_get _ j hj]
theorem put_st (w0 w : World) (G M : Nat) (kv : KV) (ns : Nodes) (L : List Ent) (d : Dg) (A : Option Addr) (c n : Nat) (to : List Dg) (hS : Own w0 w (gE G M :: mapE M kv :: L)) (he : EdgesIn L kv ns) (hd : d.length = 32) (hn : to.length = n) (hto : Rows32 w A c to) (hl : to.length ≤ 4096) :
    Calls Try.prog 9 #[.pointer (some ⟨G, 0, none⟩), dgv d, .slice A n c] w fun e w' => e = .returned (.int .i64 0) ∧ ∃ kv' v, EdgesIn (rowsE w0.heap.size 30 v to :: L) kv' (putN ns d to) ∧ Own w0 w' (gE G M :: mapE M kv' :: rowsE w0.heap.size 30 v to :: L) := by
  subst hn
  refine (put_any w0 w G M kv L d A c to hS hd hto hl).mono ?_
  rintro e w' ⟨rfl, v, h⟩
  exact ⟨rfl, _, v, (he.mono (fun x hx => List.mem_cons_of_mem _ hx)).put d to v ⟨w0.heap.size, by simp⟩, h⟩
end Go.Proofs.Ytnlnkojcbjaeeaa
