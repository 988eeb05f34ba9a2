/- A range over a map keyed by sums: what is still to come, in some order. -/
import Derived.Test.YtnlnkojcbjaeeaaKey18
import Derived.Test.YtnlnkojcbjaeeaaStep18
import Derived.Maps.RangeWalk
import Derived.RangeFuncSeq
namespace Go.Proofs.Ytnlnkojcbjaeeaa
set_option linter.unusedVariables false
set_option linter.unusedSimpArgs false
set_option linter.unusedSectionVars false
open Go.RowKit
open Go.ChangeMaps (setBlock modify_eq_set)
open Go.MapKept (Stamped)
set_option linter.unusedVariables false

/-- a block that is there; of what it holds nothing is said -/
def anyE (r : Nat) : Ent := ⟨some r, fun w => r < w.heap.size⟩
theorem anyE_good (r : Nat) : (anyE r).good := ⟨fun _ _ _ h hg _ => Nat.lt_of_lt_of_le h hg.size, fun _ h k hk => by cases hk; exact h⟩

/-- block b is a map that holds kv; block r is an iterator over it; todo is still to come -/
structure RangeAt (w : World) (b r : Nat) (kv todo : KV) : Prop where
  ex : ∃ es clock since seen c0, w.heap[b]? = some (.map es clock) ∧ es.toList.map entOf = kv.map kvOf ∧ Stamped es clock ∧ w.heap[r]? = some (.mapIter (some b) since seen c0) ∧
    (∀ x ∈ es.toList, x.born < since) ∧ since ≤ c0 ∧ since ≤ clock ∧ ((leftOf es seen).toList.map entOf).Perm (todo.map kvOf)
  len : ∀ p ∈ kv, p.1.length = 32

section
variable {P : Program} {w w' : World} {b r : Nat} {kv todo : KV}
theorem RangeAt.map (h : RangeAt w b r kv todo) : MapAt w b kv := by
  obtain ⟨es, clock, _, _, _, hb, h1, h2, _⟩ := h.ex
  exact ⟨⟨es, clock, hb, h1, h2⟩, h.len⟩
theorem RangeAt.ne (h : RangeAt w b r kv todo) : r ≠ b := by
  obtain ⟨es, clock, _, _, _, hb, _, _, hr, _⟩ := h.ex
  intro e
  rw [e, hb] at hr
  cases hr
theorem RangeAt.lt (h : RangeAt w b r kv todo) : r < w.heap.size := by
  obtain ⟨es, clock, _, _, _, _, _, _, hr, _⟩ := h.ex
  exact (Array.getElem?_eq_some_iff.1 hr).1
theorem RangeAt.left_eq (h : RangeAt w b r kv todo) : w.rangeLeft b r = todo.length := by
  obtain ⟨es, clock, since, seen, c0, hb, _, _, hr, _, _, _, hp⟩ := h.ex
  have := hp.length_eq
  simp only [World.rangeLeft, hb, hr]
  simpa using this
theorem RangeAt.kept {row : Option Nat} (h : RangeAt w b r kv todo) (hg : w.grownBy w' row) (hb' : some b ≠ row) (hr' : some r ≠ row) : RangeAt w' b r kv todo := by
  have h1 := h.map.lt
  have h2 := h.lt
  obtain ⟨es, clock, since, seen, c0, hb, x1, x2, hr, rest⟩ := h.ex
  exact ⟨⟨es, clock, since, seen, c0, (hg.block b h1 hb').trans hb, x1, x2, (hg.block r h2 hr').trans hr, rest⟩, h.len⟩
theorem RangeAt.call (h : RangeAt w b r kv todo) (hg : w.grownBy w' none) : RangeAt w' b r kv todo := h.kept hg (by simp) (by simp)
theorem RangeAt.of_walks (h : RangeAt w b r kv todo) (hk : ∀ (k : Nat) (o : Obj), w.heap[k]? = some o → o.isWalk = true → w'.heap[k]? = some o) : RangeAt w' b r kv todo := by
  obtain ⟨es, clock, since, seen, c0, hb, x1, x2, hr, rest⟩ := h.ex
  exact ⟨⟨es, clock, since, seen, c0, hk b _ hb rfl, x1, x2, hk r _ hr rfl, rest⟩, h.len⟩
theorem perm_map_kvOf {l m : KV} (h : (l.map kvOf).Perm (m.map kvOf)) : l.Perm m := by
  induction l generalizing m with
  | nil =>
    have := h.length_eq
    cases m with
    | nil => exact .nil
    | cons x r => simp at this
  | cons p l ih =>
    have hm : kvOf p ∈ m.map kvOf := (h.mem_iff).1 (by simp)
    obtain ⟨q, hq, he⟩ := List.mem_map.1 hm
    have hpq : q = p := by
      have h2 : (dgv q.1, q.2) = (dgv p.1, p.2) := he
      injection h2 with h3 h4
      exact Prod.ext (dgv_inj h3) h4
    subst hpq
    obtain ⟨s, t, rfl⟩ := List.append_of_mem hq
    have h5 : ((q :: (s ++ t)).map kvOf).Perm ((s ++ q :: t).map kvOf) := (List.perm_middle.symm).map kvOf
    have h6 : (l.map kvOf).Perm ((s ++ t).map kvOf) := by
      have := h.trans h5.symm
      simp only [List.map_cons] at this
      exact this.cons_inv
    exact (ih h6).cons q |>.trans List.perm_middle.symm
/-- the iterator's step -/
theorem RangeAt.next (h : RangeAt w b r kv todo) (ty : TypeId) :
    (todo = [] ∧ (Instr.next (.pointer (some ⟨r, 0, none⟩)) false ty).run P w = .ok (.tuple #[.bool false]) w) ∨
    ∃ p todo' w', todo.Perm (p :: todo') ∧ (Instr.next (.pointer (some ⟨r, 0, none⟩)) false ty).run P w = .ok (.tuple #[.bool true, dgv p.1, p.2]) w' ∧ RangeAt w' b r kv todo' ∧ w.grownBy w' (some r) ∧ w'.heap.size = w.heap.size ∧
      (Instr.entry (.pointer (some ⟨r, 0, none⟩))).run P w' = .ok (.tuple #[dgv p.1, p.2]) w' := by
  have hne := h.ne
  have hlen := h.len
  obtain ⟨es, clock, since, seen, c0, hb, x1, x2, hr, hold, hsc, hsk, hperm⟩ := h.ex
  rcases run_next_at (P := P) w ty r b since c0 seen es clock hr hb hold hsc with ⟨h0, hrun⟩ | ⟨e, he, w1, hal, hrun⟩
  · refine Or.inl ⟨?_, hrun⟩
    have := hperm.length_eq
    simp only [List.length_map, Array.length_toList, h0] at this
    exact List.eq_nil_of_length_eq_zero this.symm
  · have hem : e ∈ es.toList := by unfold leftOf at he; simp at he ⊢; exact he.1
    obtain ⟨p0, hp0, hk0, hv0⟩ := kv_mem x1 hem
    have hr1 : w1.heap[r]? = some (.mapIter (some b) since seen c0) := by rcases hal with rfl | rfl <;> exact hr
    have hb1 : w1.heap[b]? = some (.map es clock) := by rcases hal with rfl | rfl <;> exact hb
    have hset := MapKept.heap_set (o' := .mapIter (some b) since (seen.push e.born) clock) hr1
    have hb' : (setBlock w1 r (.mapIter (some b) since (seen.push e.born) clock)).heap[b]? = some (.map es clock) := (hset.2 b (fun e1 => hne e1.symm)).trans hb1
    have hleft : (leftOf es seen).toList.Perm (e :: (leftOf es (seen.push e.born)).toList) := by
      have hnd := x2.2.1
      unfold leftOf at he ⊢
      simp only [Array.toList_filter] at he ⊢
      obtain ⟨s, t, hst⟩ := List.append_of_mem hem
      rw [hst] at hnd he ⊢
      have hes : seen.contains e.born = false := by simpa using (List.mem_filter.1 he).2
      have hother : ∀ x, x ∈ s ∨ x ∈ t → x.born ≠ e.born := by
        intro x hx hxe
        simp only [List.map_append, List.map_cons] at hnd
        rw [List.nodup_append] at hnd
        obtain ⟨n1, n2, n3⟩ := hnd
        rw [List.nodup_cons] at n2
        rcases hx with hx | hx
        · exact n3 x.born (List.mem_map.2 ⟨x, hx, rfl⟩) e.born (by simp) hxe
        · exact n2.1 (List.mem_map.2 ⟨x, hx, hxe⟩)
      have hf : ∀ l : List MapEntry, (∀ x ∈ l, x.born ≠ e.born) → l.filter (fun x => !(seen.push e.born).contains x.born) = l.filter (fun x => !seen.contains x.born) := by
        intro l hl
        refine List.filter_congr fun x hx => ?_
        have := hl x hx
        simp [this]
      rw [List.filter_append, List.filter_cons_of_pos (by simpa using hes), List.filter_append, List.filter_cons_of_neg (by simp), hf s (fun x hx => hother x (.inl hx)), hf t (fun x hx => hother x (.inr hx))]
      exact List.perm_middle
    have hm0 : kvOf p0 ∈ todo.map kvOf := (hperm.mem_iff).1 (List.mem_map.2 ⟨e, he, by show (e.key, e.val) = (dgv p0.1, p0.2); rw [hk0, hv0]⟩)
    have hp1 : p0 ∈ todo := by
      obtain ⟨q, hq, hqe⟩ := List.mem_map.1 hm0
      have h2 : (dgv q.1, q.2) = (dgv p0.1, p0.2) := hqe
      injection h2 with h3 h4
      rwa [← show q = p0 from Prod.ext (dgv_inj h3) h4]
    obtain ⟨s, t, hst⟩ := List.append_of_mem hp1
    have htd : todo.Perm (p0 :: (s ++ t)) := by rw [hst]; exact List.perm_middle
    refine Or.inr ⟨p0, s ++ t, _, htd, by rw [hrun, hk0, hv0], ⟨⟨es, clock, since, seen.push e.born, clock, hb', x1, x2, hset.1, hold, hsk, hsk, ?_⟩, hlen⟩, ?_, ?_, ?_⟩
    · have q1 := (hleft.map entOf).symm.trans (hperm.trans (htd.map kvOf))
      simp only [List.map_cons] at q1
      have q2 : entOf e = kvOf p0 := by show (e.key, e.val) = (dgv p0.1, p0.2); rw [hk0, hv0]
      rw [q2] at q1
      exact q1.cons_inv
    · rcases hal with rfl | rfl <;> exact ⟨rfl, rfl, rfl, by simp [setBlock], fun i _ hi => hset.2 i (fun e1 => hi (by rw [e1]))⟩
    · rcases hal with rfl | rfl <;> simp [setBlock]
    · rw [run_entry_at _ r b since seen es clock e hset.1 hb' hem x2.2.1, hk0, hv0]
/-- 'range m' -/
theorem MapAt.range {t K E : TypeId} (h : MapAt w b kv) (ht : P.underlying t = some (.map K E)) :
    ∃ w', (Instr.range t (.map (some b))).run P w = .ok (.pointer (some ⟨w.heap.size, 0, none⟩)) w' ∧ RangeAt w' b w.heap.size kv kv ∧ w.grownBy w' none ∧ w'.heap.size = w.heap.size + 1 := by
  have hlt := h.lt
  have hlen := h.len
  obtain ⟨es, clock, hb, x1, x2⟩ := h.ex
  refine ⟨_, run_range_map w t K E b es clock ht hb, ⟨⟨es, clock, clock, #[], clock, ((MapKept.heap_alloc w _).2 b hlt).trans hb, x1, x2, (MapKept.heap_alloc w _).1, x2.1, Nat.le_refl _, Nat.le_refl _, ?_⟩, hlen⟩, World.grownBy_alloc w _ none, by simp⟩
  have : leftOf es #[] = es := by simp [leftOf]
  rw [this, x1]
theorem wp_range {ops : Array Oper} {rest : List Oper} {o : Oper} {a : Act} {Q : Exit → Act → World → Prop} (hg : o.guard = none) (m : Operand) (t K E : TypeId) (hop : o.op = Op.range t m) (ht : P.underlying t = some (.map K E)) (b : Nat) (kv : KV)
    (hm : a.eval m = .map (some b)) (h : MapAt w b kv)
    (hK : ∀ w', RangeAt w' b w.heap.size kv kv → w.grownBy w' none → wpList P ops Q rest (a.put o.dst (.pointer (some ⟨w.heap.size, 0, none⟩))) w') : wpList P ops Q (o :: rest) a w := by
  refine wpList_plain hg fun K' hK' => ?_
  obtain ⟨w', hrun, r1, r2, r3⟩ := h.range ht
  unfold Oper.wp
  simp [execOp, hop, hm, hrun, Result.andThen]
  exact hK' _ _ (hK w' r1 r2)
theorem wp_next {ops : Array Oper} {rest : List Oper} {o : Oper} {a : Act} {Q : Exit → Act → World → Prop} (hg : o.guard = none) (it : Operand) (hop : o.op = Op.next it false) (b r : Nat) (kv todo : KV)
    (hit : a.eval it = .pointer (some ⟨r, 0, none⟩)) (h : RangeAt w b r kv todo)
    (hDone : todo = [] → wpList P ops Q rest (a.put o.dst (.tuple #[.bool false])) w)
    (hMore : ∀ (p : Dg × Value) (todo' : KV) (w' : World), todo.Perm (p :: todo') → RangeAt w' b r kv todo' → w.grownBy w' (some r) → w'.heap.size = w.heap.size → (Instr.entry (.pointer (some ⟨r, 0, none⟩))).run P w' = .ok (.tuple #[dgv p.1, p.2]) w' →
      wpList P ops Q rest (a.put o.dst (.tuple #[.bool true, dgv p.1, p.2])) w') : wpList P ops Q (o :: rest) a w := by
  refine wpList_plain hg fun K' hK' => ?_
  unfold Oper.wp
  rcases h.next (P := P) o.type with ⟨h0, hrun⟩ | ⟨p, todo', w', hp, hrun, hrg, hgr, hsz, hen⟩
  · simp [execOp, hop, hit, hrun, Result.andThen]
    exact hK' _ _ (hDone h0)
  · simp [execOp, hop, hit, hrun, Result.andThen]
    exact hK' _ _ (hMore p todo' w' hp hrg hgr hsz hen)
end
theorem All2.perm {α β : Type} {R : α → β → Prop} {l l' : List α} (hp : l.Perm l') : ∀ {m : List β}, All2 R l m → ∃ m', m.Perm m' ∧ All2 R l' m' := by
  induction hp with
  | nil => intro m h; cases h; exact ⟨[], .nil, .nil⟩
  | cons x _ ih =>
    intro m h
    cases h with
    | cons hx ht =>
      obtain ⟨m', h1, h2⟩ := ih ht
      exact ⟨_, h1.cons _, .cons hx h2⟩
  | swap x y l =>
    intro m h
    cases h with
    | cons hx ht =>
      cases ht with
      | cons hy htt => exact ⟨_, .swap _ _ _, .cons hy (.cons hx htt)⟩
  | trans _ _ ih1 ih2 =>
    intro m h
    obtain ⟨m1, h1, h2⟩ := ih1 h
    obtain ⟨m2, h3, h4⟩ := ih2 h2
    exact ⟨m2, h1.trans h3, h4⟩
end Go.Proofs.Ytnlnkojcbjaeeaa
