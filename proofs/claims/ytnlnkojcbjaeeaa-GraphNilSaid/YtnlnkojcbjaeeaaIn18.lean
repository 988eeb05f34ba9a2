/- Laws inside a fence: whole arrays loaded and stored, new variables, slices of one element, appends, a range over a map. -/
import Derived.Test.YtnlnkojcbjaeeaaRange18
import Derived.OwnWalkIn
import Derived.RangeFuncGives
import Derived.RangeFuncSeq
import Derived.Shelf.AbstractIn
import Derived.Sort.MapsRangeIn
import Derived.WalkKit
import Derived.TacticsInMore
import Derived.RegionIn
import Derived.LoopNIn
import Derived.LoopIn
namespace Go.Proofs.Ytnlnkojcbjaeeaa
set_option linter.unusedVariables false
set_option linter.unusedSimpArgs false
set_option linter.unusedSectionVars false
open Go.RowKit
set_option linter.unusedVariables false
section
variable {F : Fence} {n : Nat} {P : Program} {w : World} {ops : Array Oper} {rest : List Oper} {o : Oper} {a : Act} {Q : Exit → Act → World → Prop}
theorem wi_val (hg : o.guard = none) (hc : ∀ c, o.op ≠ .call c) (hd : ∀ c, o.op ≠ .defer c) (v : Value) (w' : World)
    (hr : (execOp a.eval o).run P w = .ok (.value v) w') (h : wpListIn F n P ops Q rest (a.put o.dst v) w') : wpListIn F n P ops Q (o :: rest) a w := by
  refine wpListIn_plain hg fun K' hK' => ?_
  unfold Oper.wpIn
  refine ⟨fun f hf => ?_, ?_⟩
  · unfold Oper.about at hf
    split at hf
    · rename_i c hop; exact absurd hop (hc c)
    · cases hf
  · rw [Oper.semAt_plain F _ _ hd, hr]
    exact hK' _ _ h
theorem wi_skip (hg : o.guard = none) (hc : ∀ c, o.op ≠ .call c) (hd : ∀ c, o.op ≠ .defer c) (w' : World)
    (hr : (execOp a.eval o).run P w = .ok .skip w') (h : wpListIn F n P ops Q rest (a.put o.dst undef) w') : wpListIn F n P ops Q (o :: rest) a w := by
  refine wpListIn_plain hg fun K' hK' => ?_
  unfold Oper.wpIn
  refine ⟨fun f hf => ?_, ?_⟩
  · unfold Oper.about at hf
    split at hf
    · rename_i c hop; exact absurd hop (hc c)
    · cases hf
  · rw [Oper.semAt_plain F _ _ hd, hr]
    exact hK' _ _ h
theorem wi_load (hg : o.guard = none) (ty : TypeId) (x : Operand) (ho : o.op = .load ty x) {d : TypeDesc} (hu : P.underlying ty = some d) (hd : isAggD d = true) (ad : Addr) (hx : a.eval x = .pointer (some ad)) (cs : List Value)
    (hi : (P.info? ty).map (·.size) = some cs.length) (hc : ∀ j v, cs[j]? = some v → w.cell? (ad.add j) = some v) (h : wpListIn F n P ops Q rest (a.put o.dst (.agg cs.toArray)) w) : wpListIn F n P ops Q (o :: rest) a w :=
  wi_val hg (by rw [ho]; intro c hc'; cases hc') (by rw [ho]; intro c hc'; cases hc') _ _ (run_load_op ty x ho hu hd ad hx cs hi hc) h
theorem wi_alloc (hg : o.guard = none) (t : TypeId) (ho : o.op = .alloc t) (cs : List Value)
    (hr : ∀ W : World, (Instr.alloc t true (.tuple #[])).run P W = .ok (.pointer (some ⟨W.heap.size, 0, none⟩)) (W.alloc (.cells cs.toArray t)))
    (h : ∀ w', Row w' w.heap.size t cs → w.grownBy w' none → w'.heap.size = w.heap.size + 1 → wpListIn F n P ops Q rest (a.put o.dst (.pointer (some ⟨w.heap.size, 0, none⟩))) w') : wpListIn F n P ops Q (o :: rest) a w :=
  wi_val hg (by rw [ho]; intro c hc'; cases hc') (by rw [ho]; intro c hc'; cases hc') _ _ (by simp only [execOp, ho, Sem.run_bind, hr w, Result.andThen_ok, Sem.run_pure]) (h _ (Row.new w t cs) (World.grownBy_alloc w _ none) (by show (w.heap.push _).size = _; simp))
theorem wi_storeAgg (hg : o.guard = none) (ty : TypeId) (x y : Operand) (ho : o.op = .store ty x y) (g off : Nat) (t : TypeId) (cur vs : List Value) (hx : a.eval x = .pointer (some ⟨g, off, none⟩)) (hy : a.eval y = .agg vs.toArray) (hr : Row w g t cur)
    (hi : (P.info? ty).map (·.size) = some vs.length) (hfit : off + vs.length ≤ cur.length) (h1 : ∀ v ∈ vs, v.oneCell' = true)
    (h : ∀ w', Row w' g t (splice cur off vs) → w.grownBy w' (some g) → w'.heap.size = w.heap.size → wpListIn F n P ops Q rest (a.put o.dst undef) w') : wpListIn F n P ops Q (o :: rest) a w :=
  wi_skip (w' := w.setRow g (splice cur off vs).toArray) hg (by rw [ho]; intro c hc'; cases hc') (by rw [ho]; intro c hc'; cases hc') (by simp only [execOp, ho, hx, hy, Sem.run_bind, run_storeAgg w g off t cur vs hr hi hfit h1, Result.andThen_ok, Sem.run_pure]) (h _ (hr.setRow _) (grownBy_setRow _ _ _) (by simp [World.setRow]))
theorem wi_built1 (hg : o.guard = none) (t : TypeId) (x : Operand) (ho : o.op = .buildSlice t 1 #[(0, x)])
    (e : TypeId) (hu : P.underlying t = some (.slice e)) (s : Nat) (hi : (P.info? e).map (fun i => (i.zero.isSome, i.size)) = some (true, s)) (hs : 0 < s) (hs2 : s ≤ 4096) (cs : List Value) (hl : cs.length = s) (hx : a.eval x = .agg cs.toArray)
    (h : ∀ w', Row w' w.heap.size e cs → w.grownBy w' none → wpListIn F n P ops Q rest (a.put o.dst (.slice (some ⟨w.heap.size, 0, none⟩) 1 1)) w') : wpListIn F n P ops Q (o :: rest) a w := by
  cases hq : P.info? e with
  | none => simp [hq] at hi
  | some i =>
    simp only [hq, Option.map_some, Option.some.injEq, Prod.mk.injEq] at hi
    obtain ⟨z, hz⟩ := Option.isSome_iff_exists.1 hi.1
    have hc : (Value.agg cs.toArray).cells.size = s := by simp [Value.cells, hl]
    have hfill := Go.Great.fill_whole hs [.agg cs.toArray] ((Array.range (1 * s)).map (z.cells[· % z.cells.size]!)) (fun v hv => by rw [List.mem_singleton.1 hv]; exact hc) (by simp)
    have e1 : (([Value.agg cs.toArray] : List Value).flatMap fun v => v.cells.toList).toArray = cs.toArray := by simp [Value.cells]
    rw [e1] at hfill
    have hrun : (execOp a.eval o).run P w = .ok (.value (.slice (some ⟨w.heap.size, 0, none⟩) 1 1)) (w.alloc (.cells cs.toArray e)) := by
      have hsm : ¬ 1 * i.size > 2 ^ 24 := by rw [hi.2]; omega
      have hps : ¬ 1 * i.size = 0 := by rw [hi.2]; omega
      have hf : Instr.fill (fun j => some (j * i.size, i.size)) ((Array.range (1 * i.size)).map (z.cells[· % z.cells.size]!)) (#[(0, x)].map fun (j, y) => (j, a.eval y)).toList = some cs.toArray := by rw [hi.2]; simpa [hx] using hfill
      unfold execOp
      simp only [ho, Sem.run_bind, run_buildSlice w t e 1 _ cs.toArray i z hu hq hz hsm hps hf, Result.andThen_ok]
      rfl
    exact wi_val hg (by rw [ho]; intro c hc'; cases hc') (by rw [ho]; intro c hc'; cases hc') _ _ hrun (h _ (Row.new w e cs) (World.grownBy_alloc _ _ none))
theorem wi_appR (hg : o.guard = none) (s x : Operand) (t : TypeId) (ho : o.op = .call { callee := .builtin .append, args := #[s, x], argTypes := #[t, t] })
    (e : TypeId) (ht : P.underlying t = some (.slice e)) (hi : (P.info? e).map (fun i => (i.zero.map (fun z => z.cells.size), i.size, i.bytes)) = some (some 32, 32, 32))
    {base : Nat} {v : Value} (L : List (List UInt8)) (hs : a.eval s = v) (hown : OwnsR w base e v L)
    (ad : Addr) (c : Nat) (d : Dg) (hx : a.eval x = .slice (some ad) 1 c) (hd : d.length = 32) (hc : ∀ j u, (c8 d)[j]? = some u → w.cell? (ad.add j) = some u)
    (hmax : L.length + 1 ≤ 4398046511104) (hbase : base ≤ w.heap.size)
    (h : ∀ v' w', OwnsR w' base e v' (L ++ [d]) → w.grownBy w' v.ownBlock → (v'.ownBlock = v.ownBlock ∨ v'.ownBlock = some w.heap.size) → wpListIn F n P ops Q rest (a.put o.dst v') w') :
    wpListIn F n P ops Q (o :: rest) a w := by
  cases hq : P.info? e with
  | none => simp [hq] at hi
  | some i =>
    simp only [hq, Option.map_some, Option.some.injEq, Prod.mk.injEq] at hi
    obtain ⟨hz0, hsz, hby⟩ := hi
    obtain ⟨z, hz⟩ : ∃ z, i.zero = some z := by
      cases hz : i.zero with
      | none => simp [hz] at hz0
      | some z => exact ⟨z, rfl⟩
    have hzs : z.cells.size = 32 := by simpa [hz] using hz0
    obtain ⟨v', w', hrun, h2, h3, _, h5⟩ := Go.run_append_own_at (P := P) w base t o.type e i z 32 32 ht hq hz hsz hby hzs (by decide) v L.length (c8 L.flatten) hown.2 ad 1 c (c8 d) (by rw [c8_length, hd]) hc (one8 _) (by unfold maxLen; omega) (by omega) hbase
    refine wpListIn_plain hg fun K hK' => ?_
    unfold Oper.wpIn
    refine ⟨?_, ?_⟩
    · simp [Oper.about, ho, resolve, Target.leads, Sem.run_pure]
    · rw [Oper.semAt_plain F _ _ (by rw [ho]; intro c hc'; cases hc')]
      simp [execOp, ho, resolve, invoke, builtin, hs, hx, hrun, Result.andThen]
      refine hK' _ _ (h v' w' ⟨hown.1.snoc hd, ?_⟩ h3 h5)
      have e1 : (L ++ [d]).length = L.length + 1 := by simp
      have e2 : c8 (L ++ [d]).flatten = c8 L.flatten ++ c8 d := by simp [c8]
      rw [e1, e2]; exact h2
theorem wi_range (hg : o.guard = none) (m : Operand) (t K E : TypeId) (ho : o.op = Op.range t m) (ht : P.underlying t = some (.map K E)) (b : Nat) (kv : KV)
    (hm : a.eval m = .map (some b)) (hM : MapAt w b kv)
    (h : ∀ w', RangeAt w' b w.heap.size kv kv → w.grownBy w' none → wpListIn F n P ops Q rest (a.put o.dst (.pointer (some ⟨w.heap.size, 0, none⟩))) w') : wpListIn F n P ops Q (o :: rest) a w := by
  obtain ⟨w', hrun, r1, r2, r3⟩ := hM.range ht
  exact wi_val hg (by rw [ho]; intro c hc'; cases hc') (by rw [ho]; intro c hc'; cases hc') _ w' (by simp [execOp, ho, hm, hrun, Result.andThen]) (h w' r1 r2)
theorem wi_next (hg : o.guard = none) (it : Operand) (ho : o.op = Op.next it false) (b r : Nat) (kv todo : KV) (hit : a.eval it = .pointer (some ⟨r, 0, none⟩)) (hR : RangeAt w b r kv todo)
    (hDone : todo = [] → wpListIn F n P ops Q rest (a.put o.dst (.tuple #[.bool false])) w)
    (hMore : ∀ (k : Dg) (v : Value) (todo' : KV) (w' : World), todo.Perm ((k, v) :: todo') → RangeAt w' b r kv todo' → w.grownBy w' (some r) → w'.heap.size = w.heap.size → (Instr.entry (.pointer (some ⟨r, 0, none⟩))).run P w' = .ok (.tuple #[dgv k, v]) w' →
      wpListIn F n P ops Q rest (a.put o.dst (.tuple #[.bool true, dgv k, v])) w') : wpListIn F n P ops Q (o :: rest) a w := by
  rcases hR.next (P := P) o.type with ⟨h0, hrun⟩ | ⟨p, todo', w', hp, hrun, hrg, hgr, hsz, hen⟩
  · exact wi_val hg (by rw [ho]; intro c hc'; cases hc') (by rw [ho]; intro c hc'; cases hc') _ w (by simp [execOp, ho, hit, hrun, Result.andThen]) (hDone h0)
  · exact wi_val hg (by rw [ho]; intro c hc'; cases hc') (by rw [ho]; intro c hc'; cases hc') _ w' (by simp [execOp, ho, hit, hrun, Result.andThen]) (hMore p.1 p.2 todo' w' hp hrg hgr hsz hen)
end
end Go.Proofs.Ytnlnkojcbjaeeaa
