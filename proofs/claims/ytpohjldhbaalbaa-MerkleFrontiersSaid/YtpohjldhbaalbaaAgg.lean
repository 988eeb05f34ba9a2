/- Laws for whole arrays and structs as values: loaded, stored, looked into. No program in sight. -/
import Derived.Test.YtpohjldhbaalbaaMem
import Derived.Maps.AppendAt
import Derived.Laws.AppendOwnNone
namespace Go.Proofs.Ytpohjldhbaalbaa
set_option linter.unusedVariables false
set_option linter.unusedSimpArgs false
set_option linter.unusedSectionVars false
open Go.RowKit

section
variable {P : Program}

theorem addr_add (g off j : Nat) : (⟨g, off, none⟩ : Addr).add j = ⟨g, off + j, none⟩ := by
  unfold Addr.add; split <;> simp_all

theorem wpList_val {w : World} {ops : Array Oper} {rest : List Oper} {o : Oper} {a : Act} {Q : Exit → Act → World → Prop} (hgd : o.guard = none) (v : Value)
    (hr : (execOp a.eval o).run P w = .ok (.value v) w) (h : wpList P ops Q rest (a.put o.dst v) w) : wpList P ops Q (o :: rest) a w := by
  refine wpList_plain hgd (fun K hK => ?_)
  unfold Oper.wp
  rw [hr]
  exact hK _ _ h

theorem wpList_skip {w w' : World} {ops : Array Oper} {rest : List Oper} {o : Oper} {a : Act} {Q : Exit → Act → World → Prop} (hgd : o.guard = none)
    (hr : (execOp a.eval o).run P w = .ok .skip w') (h : wpList P ops Q rest (a.put o.dst undef) w') : wpList P ops Q (o :: rest) a w := by
  refine wpList_plain hgd (fun K hK => ?_)
  unfold Oper.wp
  rw [hr]
  exact hK _ _ h

def isAggD (d : TypeDesc) : Bool := match d with | .struct _ | .array _ _ => true | _ => false

theorem run_isAgg (w : World) {ty : TypeId} {d : TypeDesc} (hu : P.underlying ty = some d) (hd : isAggD d = true) : (isAgg ty).run P w = .ok true w := by
  unfold isAgg
  rw [Sem.run_bind, run_underlying hu w]
  cases d <;> simp_all [isAggD]

theorem run_isAgg_no (w : World) {ty : TypeId} {d : TypeDesc} (hu : P.underlying ty = some d) (hd : isAggD d = false) : (isAgg ty).run P w = .ok false w := by
  unfold isAgg
  rw [Sem.run_bind, run_underlying hu w]
  cases d <;> simp_all [isAggD]

theorem run_loadAgg (w : World) {ty : TypeId} {d : TypeDesc} (hu : P.underlying ty = some d) (hd : isAggD d = true) (ad : Addr) (cs : List Value)
    (hi : (P.info? ty).map (·.size) = some cs.length) (hc : ∀ j v, cs[j]? = some v → w.cell? (ad.add j) = some v) :
    (Instr.loadAt ty (.pointer (some ad))).run P w = .ok (.agg cs.toArray) w := by
  have hl := run_loadCells_list (P := P) w ad cs hc
  cases hq : P.info? ty with
  | none => simp [hq] at hi
  | some i =>
    have hs : i.size = cs.length := by simpa [hq] using hi
    simp [Instr.loadAt, Instr.sureAddr, loadVar, Sem.run_bind, run_isAgg w hu hd, sizeOf, typeInfo, hq, hs, hl]

theorem run_storeAgg (w : World) {ty : TypeId} (g off : Nat) (t : TypeId) (cur vs : List Value) (hg : Row w g t cur)
    (hi : (P.info? ty).map (·.size) = some vs.length) (hfit : off + vs.length ≤ cur.length) (h1 : ∀ v ∈ vs, v.oneCell' = true) :
    (Instr.storeAt ty (.pointer (some ⟨g, off, none⟩)) (.agg vs.toArray)).run P w = .ok () (w.setRow g (splice cur off vs).toArray) := by
  have hst := run_storeCells_at P g off t vs 0 cur.toArray w hg (by simpa using hfit) h1
  cases hq : P.info? ty with
  | none => simp [hq] at hi
  | some i =>
    have hs : i.size = vs.length := by simpa [hq] using hi
    simp only [Nat.add_zero] at hst
    simp [Instr.storeAt, Instr.sureAddr, storeVar, Sem.run_bind, sizeOf, typeInfo, hq, hs, Value.cells, hst, splice]

theorem wp_loadAgg {w : World} {ops : Array Oper} {rest : List Oper} {o : Oper} {a : Act} {Q : Exit → Act → World → Prop} (hgd : o.guard = none) (ty : TypeId) (x : Operand) (ho : o.op = .load ty x)
    {d : TypeDesc} (hu : P.underlying ty = some d) (hd : isAggD d = true) (ad : Addr) (hx : a.eval x = .pointer (some ad)) (cs : List Value)
    (hi : (P.info? ty).map (·.size) = some cs.length) (hc : ∀ j v, cs[j]? = some v → w.cell? (ad.add j) = some v)
    (h : wpList P ops Q rest (a.put o.dst (.agg cs.toArray)) w) : wpList P ops Q (o :: rest) a w := by
  refine wpList_val hgd _ ?_ h
  simp only [execOp, ho, hx, Sem.run_bind, run_loadAgg w hu hd ad cs hi hc, Result.andThen_ok, Sem.run_pure]

theorem wp_storeAgg {w : World} {ops : Array Oper} {rest : List Oper} {o : Oper} {a : Act} {Q : Exit → Act → World → Prop} (hgd : o.guard = none) (ty : TypeId) (x y : Operand) (ho : o.op = .store ty x y)
    (g off : Nat) (t : TypeId) (cur vs : List Value) (hx : a.eval x = .pointer (some ⟨g, off, none⟩)) (hy : a.eval y = .agg vs.toArray) (hg : Row w g t cur)
    (hi : (P.info? ty).map (·.size) = some vs.length) (hfit : off + vs.length ≤ cur.length) (h1 : ∀ v ∈ vs, v.oneCell' = true)
    (h : ∀ w', Row w' g t (splice cur off vs) → w.grownBy w' (some g) → w'.heap.size = w.heap.size → wpList P ops Q rest (a.put o.dst undef) w') : wpList P ops Q (o :: rest) a w := by
  refine wpList_skip (w' := w.setRow g (splice cur off vs).toArray) hgd ?_ (h _ (hg.setRow _) (grownBy_setRow _ _ _) (by simp [World.setRow]))
  simp only [execOp, ho, hx, hy, Sem.run_bind, run_storeAgg w g off t cur vs hg hi hfit h1, Result.andThen_ok, Sem.run_pure]

theorem row_cells {w : World} {g off : Nat} {t : TypeId} {A cs B : List Value} (h : Row w g t (A ++ (cs ++ B))) (hA : A.length = off) :
    ∀ j v, cs[j]? = some v → w.cell? ((⟨g, off, none⟩ : Addr).add j) = some v := by
  intro j v hv
  have hj : j < cs.length := (List.getElem?_eq_some_iff.1 hv).1
  rw [addr_add, h.cell, List.getElem?_append_right (by omega), show off + j - A.length = j from by omega, List.getElem?_append_left hj, hv]

theorem splice_mid {A cs B vs : List Value} {off : Nat} (hA : A.length = off) (hl : vs.length = cs.length) : splice (A ++ (cs ++ B)) off vs = A ++ (vs ++ B) := by
  subst hA
  unfold splice
  rw [List.take_left, hl, List.drop_append, List.drop_of_length_le (by omega), Nat.add_sub_cancel_left, List.drop_left]; simp
theorem splice_all {cs vs : List Value} (hl : vs.length = cs.length) : splice cs 0 vs = vs := by
  unfold splice; simp [hl]

theorem run_part_cell (w : World) {e : TypeId} {d : TypeDesc} (hu : P.underlying e = some d) (hd : isAggD d = false) (cs : Array Value) (off : Nat) (v : Value) (hv : cs[off]? = some v) :
    (part e cs off).run P w = .ok v w := by
  simp [part, Sem.run_bind, run_isAgg_no w hu hd, hv]

/-- 'x[i]' of an array value of one-cell elements -/
theorem run_index_agg (w : World) {T e : TypeId} {n : Nat} {d : TypeDesc} (hT : P.underlying T = some (.array n e)) (hu : P.underlying e = some d) (hd : isAggD d = false)
    (hi : (P.info? e).map (·.size) = some 1) (cs : List Value) (i : Nat) (h : i < n) (v : Value) (hv : cs[i]? = some v) :
    (Instr.index T (.agg cs.toArray) (.int .i64 (i : Int))).run P w = .ok v w := by
  cases hq : P.info? e with
  | none => simp [hq] at hi
  | some j =>
    have hs : j.size = 1 := by simpa [hq] using hi
    have hb : 0 ≤ (i : Int) ∧ (i : Int) < (n : Int) := by omega
    simp [Instr.index, asIntOf, Sem.run_bind, run_underlying hT, hb, h, sizeOf, typeInfo, hq, hs, run_part_cell w hu hd, hv]

/-- 'make([]T, n, c)', one cell an element -/
theorem run_make_row2 (w : World) (t e : TypeId) (z : Value) (bytes : Nat) (ht : P.underlying t = some (.slice e)) (hi : (P.info? e).map (fun i => (i.zero, i.size, i.bytes)) = some (some z, 1, bytes))
    (hz : z.cells = #[z]) (n c : Nat) (hnc : n ≤ c) (hb : bytes * c ≤ 281474976710656) (h63 : c ≤ 9223372036854775807) :
    (Instr.makeSlice t (.int .i64 (n : Int)) (.int .i64 (c : Int))).run P w = .ok (.slice (some ⟨w.heap.size, 0, none⟩) n c) (w.alloc (.cells (List.replicate c z).toArray e)) := by
  cases hq : P.info? e with
  | none => simp [hq] at hi
  | some i =>
    simp only [hq, Option.map_some, Option.some.injEq, Prod.mk.injEq] at hi
    obtain ⟨hz0, hs, hby⟩ := hi
    have hb' : (i.bytes : Int) * (c : Int) ≤ 281474976710656 := by
      rw [hby, ← Int.natCast_mul]; omega
    have hr := run_make (P := P) w t e i z ht hq hz0 .i64 .i64 n c (by omega) (by omega) hb' (by omega)
    simp only [Int.toNat_natCast, hs, Nat.mul_one, hz] at hr
    rw [hr]
    have e1 : madeCells #[z] c = (List.replicate c z).toArray := by rw [← toList_madeCells_one]
    rw [e1]
theorem run_make_row (w : World) (t e : TypeId) (z : Value) (bytes : Nat) (ht : P.underlying t = some (.slice e)) (hi : (P.info? e).map (fun i => (i.zero, i.size, i.bytes)) = some (some z, 1, bytes))
    (hz : z.cells = #[z]) (n : Nat) (hb : bytes * n ≤ 281474976710656) (h63 : n ≤ 9223372036854775807) :
    (Instr.makeSlice t (.int .i64 (n : Int)) (.int .i64 (n : Int))).run P w = .ok (.slice (some ⟨w.heap.size, 0, none⟩) n n) (w.alloc (.cells (List.replicate n z).toArray e)) :=
  run_make_row2 w t e z bytes ht hi hz n n (Nat.le_refl _) hb h63

/-- The cells of a source slice: nil, or at an address. -/
def Src (w : World) (A : Option Addr) (c : Nat) (cs : List Value) : Prop := (A = none ∧ cs = [] ∧ c = 0) ∨ ∃ ad, A = some ad ∧ ∀ j u, cs[j]? = some u → w.cell? (ad.add j) = some u

/-- 'append(s, x...)', s nil or a slice of the call's own. -/
theorem wp_append1 {w : World} {ops : Array Oper} {rest : List Oper} {o : Oper} {a : Act} {Q : Exit → Act → World → Prop} (hgd : o.guard = none) (s x : Operand) (t : TypeId)
    (ho : o.op = .call { callee := .builtin .append, args := #[s, x], argTypes := #[t, t] })
    (base : Nat) (e : TypeId) (z : Value) (bytes : Nat) (ht : P.underlying t = some (.slice e)) (hi : (P.info? e).map (fun i => (i.zero, i.size, i.bytes)) = some (some z, 1, bytes)) (hz : z.cells.size = 1)
    (v : Value) (n : Nat) (xs : List Value) (hs : a.eval s = v) (hown : w.ownsRow base e 1 v n xs)
    (A : Option Addr) (m c : Nat) (news : List Value) (hx : a.eval x = .slice A m c) (hsrc : Src w A c news) (hl : news.length = m) (h1 : ∀ u ∈ news, u.oneCell' = true)
    (h63 : n + m ≤ maxLen) (hbytes : (n + m) * bytes ≤ 140737488355328) (hbase : base ≤ w.heap.size)
    (h : ∀ v' w', w'.ownsRow base e 1 v' (n + m) (xs ++ news) → w.grownBy w' v.ownBlock → (v'.ownBlock = v.ownBlock ∨ v'.ownBlock = some w.heap.size) → wpList P ops Q rest (a.put o.dst v') w') :
    wpList P ops Q (o :: rest) a w := by
  cases hq : P.info? e with
  | none => simp [hq] at hi
  | some i =>
    simp only [hq, Option.map_some, Option.some.injEq, Prod.mk.injEq] at hi
    obtain ⟨hz0, hsz, hby⟩ := hi
    rcases hsrc with ⟨rfl, rfl, rfl⟩ | ⟨ad, rfl, hc⟩
    · obtain rfl : m = 0 := by simpa using hl.symm
      exact wpList_append_own_none hgd s x t ho base e i 1 ht hq v n xs hs hown hx (h v w (by simpa using hown) (grownBy_refl _ _) (.inl rfl))
    · exact wpList_append_own_at w hgd s x t ho base e i z 1 bytes ht hq hz0 hsz hby hz (by decide) v n xs hs hown ad m c news hx (by omega) hc h1 h63 hbytes hbase
        (fun v' w' h2 h3 _ h5 => h v' w' h2 h3 h5)

/-- A block that is known whole is a slice of the call's own. -/
theorem own_of_row {w : World} {g : Nat} {e : TypeId} {xs rest : List Value} (h : Row w g e (xs ++ rest)) (base : Nat) (hb : base ≤ g) (hm : (xs ++ rest).length ≤ maxLen) :
    w.ownsRow base e 1 (.slice (some ⟨g, 0, none⟩) xs.length (xs ++ rest).length) xs.length xs := by
  refine ⟨by simp, .inr ⟨g, (xs ++ rest).length, (xs ++ rest).toArray, rfl, hb, h, by simp, hm, by simp, by simp⟩⟩
/-- A slice of the call's own: where it lies. -/
theorem own_form {w : World} {base : Nat} {e : TypeId} {v : Value} {n : Nat} {xs : List Value} (h : w.ownsRow base e 1 v n xs) (hn : 0 < n) :
    ∃ g cap, v = .slice (some ⟨g, 0, none⟩) n cap ∧ base ≤ g ∧ g < w.heap.size ∧ n ≤ cap ∧ cap ≤ maxLen ∧ ∀ j u, xs[j]? = some u → w.cell? ⟨g, j, none⟩ = some u := by
  rcases h.2 with ⟨_, h0⟩ | ⟨g, cap, cur, hv, hb, hg, hnc, hcm, hcs, ht⟩
  · omega
  · refine ⟨g, cap, hv, hb, (Array.getElem?_eq_some_iff.1 hg).1, hnc, hcm, fun j u hu => ?_⟩
    have hj : j < xs.length := (List.getElem?_eq_some_iff.1 hu).1
    have hj' : j < n := by have := h.1; omega
    rw [cell_of_row w g j cur e _ hg, ← hu, ← ht]
    rw [List.getElem?_take, if_pos (by omega)]; simp
theorem own_keep {w w' : World} {base : Nat} {e : TypeId} {v : Value} {n : Nat} {xs : List Value} {row : Option Nat} (h : w.ownsRow base e 1 v n xs) (hg : w.grownBy w' row) (hne : v.ownBlock = none ∨ v.ownBlock ≠ row) :
    w'.ownsRow base e 1 v n xs := h.kept hg hne
/-- blocks of different element types differ -/
theorem own_row_ne {w : World} {base g : Nat} {e t : TypeId} {v : Value} {n : Nat} {xs cs : List Value} (h : w.ownsRow base e 1 v n xs) (hr : Row w g t cs) (hne : e ≠ t) : some g ≠ v.ownBlock := by
  rcases h.2 with ⟨rfl, _⟩ | ⟨g', cap, cur, rfl, _, hh, _⟩
  · simp [Value.ownBlock]
  · intro he
    have : g = g' := by simpa [Value.ownBlock] using he
    subst this
    unfold Row at hr
    rw [hh] at hr
    injection hr with hr
    injection hr with _ ht
    exact hne ht

/-- A new variable: the world behind it is a name. -/
theorem wp_alloc {w : World} {ops : Array Oper} {rest : List Oper} {o : Oper} {a : Act} {Q : Exit → Act → World → Prop} (hgd : o.guard = none) (t : TypeId) (ho : o.op = .alloc t) (cs : List Value)
    (hr : ∀ W : World, (Instr.alloc t true (.tuple #[])).run P W = .ok (.pointer (some ⟨W.heap.size, 0, none⟩)) (W.alloc (.cells cs.toArray t)))
    (h : ∀ w', Row w' w.heap.size t cs → w.grownBy w' none → w'.heap.size = w.heap.size + 1 → wpList P ops Q rest (a.put o.dst (.pointer (some ⟨w.heap.size, 0, none⟩))) w') : wpList P ops Q (o :: rest) a w := by
  refine wpList_plain hgd (fun K hK => ?_)
  unfold Oper.wp
  have e : (execOp a.eval o).run P w = .ok (.value (.pointer (some ⟨w.heap.size, 0, none⟩))) (w.alloc (.cells cs.toArray t)) := by
    simp only [execOp, ho, Sem.run_bind, hr w, Result.andThen_ok, Sem.run_pure]
  rw [e]
  exact hK _ _ (h _ (Row.new w t cs) (World.grownBy_alloc w _ none) (by show (w.heap.push _).size = _; simp))

/-- 'make([]T, n, c)': the world behind it is a name. -/
theorem wp_make {w : World} {ops : Array Oper} {rest : List Oper} {o : Oper} {a : Act} {Q : Exit → Act → World → Prop} (hgd : o.guard = none) (t : TypeId) (x y : Operand) (ho : o.op = .makeSlice t x y)
    (e : TypeId) (z : Value) (bytes : Nat) (ht : P.underlying t = some (.slice e)) (hi : (P.info? e).map (fun i => (i.zero, i.size, i.bytes)) = some (some z, 1, bytes)) (hz : z.cells = #[z])
    (n c : Nat) (hx : a.eval x = .int .i64 (n : Int)) (hy : a.eval y = .int .i64 (c : Int)) (hnc : n ≤ c) (hb : bytes * c ≤ 281474976710656) (h63 : c ≤ 9223372036854775807)
    (h : ∀ w', Row w' w.heap.size e (List.replicate c z) → w.grownBy w' none → w'.heap.size = w.heap.size + 1 → wpList P ops Q rest (a.put o.dst (.slice (some ⟨w.heap.size, 0, none⟩) n c)) w') : wpList P ops Q (o :: rest) a w := by
  refine wpList_plain hgd (fun K hK => ?_)
  unfold Oper.wp
  have e : (execOp a.eval o).run P w = .ok (.value (.slice (some ⟨w.heap.size, 0, none⟩) n c)) (w.alloc (.cells (List.replicate c z).toArray e)) := by
    simp only [execOp, ho, hx, hy, Sem.run_bind, run_make_row2 w t e z bytes ht hi hz n c hnc hb h63, Result.andThen_ok, Sem.run_pure]
  rw [e]
  exact hK _ _ (h _ (Row.new w _ _) (World.grownBy_alloc w _ none) (by show (w.heap.push _).size = _; simp))

/-- A parameter that is a whole array or struct, put into a variable: the world behind it is a name. -/
theorem wp_box {w : World} {ops : Array Oper} {rest : List Oper} {o : Oper} {a : Act} {Q : Exit → Act → World → Prop} (hgd : o.guard = none) (t : TypeId) (x : Operand) (ho : o.op = .box t x) (cs : List Value) (hx : a.eval x = .agg cs.toArray)
    (h : ∀ w', Row w' w.heap.size t cs → w.grownBy w' none → w'.heap.size = w.heap.size + 1 → wpList P ops Q rest (a.put o.dst (.pointer (some ⟨w.heap.size, 0, none⟩))) w') : wpList P ops Q (o :: rest) a w := by
  refine wpList_plain hgd (fun K hK => ?_)
  unfold Oper.wp
  have e : (execOp a.eval o).run P w = .ok (.value (.pointer (some ⟨w.heap.size, 0, none⟩))) (w.alloc (.cells cs.toArray t)) := by
    simp [execOp, ho, hx, Instr.box, newVar, newRow, Value.cells]
  rw [e]
  exact hK _ _ (h _ (Row.new w t cs) (World.grownBy_alloc w _ none) (by show (w.heap.push _).size = _; simp))

theorem run_load_op {w : World} {o : Oper} {a : Act} (ty : TypeId) (x : Operand) (ho : o.op = .load ty x) {d : TypeDesc} (hu : P.underlying ty = some d) (hd : isAggD d = true) (ad : Addr) (hx : a.eval x = .pointer (some ad)) (cs : List Value)
    (hi : (P.info? ty).map (·.size) = some cs.length) (hc : ∀ j v, cs[j]? = some v → w.cell? (ad.add j) = some v) : (execOp a.eval o).run P w = .ok (.value (.agg cs.toArray)) w := by
  simp only [execOp, ho, hx, Sem.run_bind, run_loadAgg w hu hd ad cs hi hc, Result.andThen_ok, Sem.run_pure]
end
theorem row_all {w : World} {g : Nat} {t : TypeId} {cs : List Value} (h : Row w g t cs) : ∀ j v, cs[j]? = some v → w.cell? ((⟨g, 0, none⟩ : Addr).add j) = some v := by
  intro j v hv
  rw [addr_add, h.cell, Nat.zero_add, hv]
theorem own_block {w : World} {base : Nat} {e : TypeId} {v : Value} {n : Nat} {xs : List Value} (h : w.ownsRow base e 1 v n xs) : v.ownBlock = none ∨ ∃ g, v.ownBlock = some g ∧ base ≤ g := by
  cases hu : v.ownBlock with
  | none => exact .inl rfl
  | some g => exact .inr ⟨g, rfl, (h.lt g hu).1⟩
theorem grown_own {a w w' : World} {base : Nat} {v : Value} (h : a.grownBy w none) (hg : w.grownBy w' v.ownBlock) (hb : v.ownBlock = none ∨ ∃ g, v.ownBlock = some g ∧ base ≤ g) (ha : a.heap.size ≤ base) : a.grownBy w' none := by
  rcases hb with hb | ⟨g, hb, hgg⟩
  · rw [hb] at hg; exact grownBy_trans h hg
  · rw [hb] at hg; exact grownBy_in h hg (by omega)
theorem own_bytes {w : World} {base : Nat} {e : TypeId} {v : Value} {t : List UInt8} (h : w.ownsRow base e 1 v t.length (c8 t)) : ∃ A c, v = .slice A t.length c ∧ (0 < t.length → ∃ b, A = some ⟨b, 0, none⟩ ∧ base ≤ b ∧ BytesAt w b 0 t) ∧ t.length ≤ c ∧ c ≤ maxLen := by
  rcases Nat.eq_zero_or_pos t.length with h0 | h0
  · rcases h.2 with ⟨hv, _⟩ | ⟨g, cap, cur, hv, _, _, hnc, hcm, _⟩
    · exact ⟨none, 0, by rw [hv, h0], fun h => by omega, by omega, by simp [maxLen]⟩
    · exact ⟨_, cap, hv, fun h => by omega, hnc, hcm⟩
  · obtain ⟨g, cap, hv, hb, hlt, hnc, hcm, hc⟩ := own_form h h0
    exact ⟨_, cap, hv, fun _ => ⟨g, rfl, hb, fun j hj => by rw [Nat.zero_add, hc j _ (c8_get t j hj)]⟩, hnc, hcm⟩
end Go.Proofs.Ytpohjldhbaalbaa
