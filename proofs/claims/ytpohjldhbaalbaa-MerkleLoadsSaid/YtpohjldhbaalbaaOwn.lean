/- What a call knows of memory, in one hypothesis: since w0 new blocks alone were made and written, and the blocks of a list are known. No program in sight. -/
import Derived.Test.YtpohjldhbaalbaaAgg
import Derived.Lib.Hide
import Derived.Laws.IdiomStrings
import Derived.Lib.BufferRead
namespace Go.Proofs.Ytpohjldhbaalbaa
set_option linter.unusedVariables false
set_option linter.unusedSimpArgs false
set_option linter.unusedSectionVars false
open Go.RowKit

/-- A piece of memory: the block where it lies (if any), and what is known of it. -/
structure Ent where
  blk : Option Nat
  P : World → Prop
def Ent.good (e : Ent) : Prop :=
  (∀ w w' row, e.P w → w.grownBy w' row → (e.blk = none ∨ e.blk ≠ row) → e.P w') ∧ ∀ w, e.P w → ∀ k, e.blk = some k → k < w.heap.size
/-- block g holds just the cells cs -/
def rowE (g : Nat) (t : TypeId) (cs : List Value) : Ent := ⟨some g, fun w => Row w g t cs⟩
/-- v is a slice of the call's own with the n elements xs -/
def ownE (base : Nat) (e : TypeId) (v : Value) (n : Nat) (xs : List Value) : Ent := ⟨v.ownBlock, fun w => w.ownsRow base e 1 v n xs⟩
/-- the same, of elements of so many cells -/
def ownsE (base : Nat) (e : TypeId) (s : Nat) (v : Value) (n : Nat) (xs : List Value) : Ent := ⟨v.ownBlock, fun w => w.ownsRow base e s v n xs⟩
theorem rowE_good (g : Nat) (t : TypeId) (cs : List Value) : (rowE g t cs).good :=
  ⟨fun _ _ _ h hg hr => Row.grown h hg (by rcases hr with hr | hr; · cases hr
                                           · exact hr), fun _ h k hk => by cases hk; exact Row.lt h⟩
theorem ownsE_good (base : Nat) (e : TypeId) (s : Nat) (v : Value) (n : Nat) (xs : List Value) : (ownsE base e s v n xs).good :=
  ⟨fun _ _ _ h hg hr => World.ownsRow.kept h hg hr, fun _ h k hk => (World.ownsRow.lt h k hk).2⟩
theorem ownE_good (base : Nat) (e : TypeId) (v : Value) (n : Nat) (xs : List Value) : (ownE base e v n xs).good := ownsE_good base e 1 v n xs

structure Own (w0 w : World) (L : List Ent) : Prop where
  grown : w0.grownBy w none
  good : ∀ e ∈ L, e.good ∧ e.P w ∧ ∀ k, e.blk = some k → w0.heap.size ≤ k
  apart : L.Pairwise fun x y => x.blk = none ∨ x.blk ≠ y.blk

section
variable {w0 w w' : World} {L : List Ent} {e e' : Ent} {g : Nat} {t : TypeId} {cs : List Value}
theorem Own.start (w : World) : Own w w [] := ⟨grownBy_refl _ _, by simp, List.Pairwise.nil⟩
theorem mem_of_at {i : Nat} (h : L[i]? = some e) : e ∈ L := List.mem_of_getElem? h
theorem Own.at_ (h : Own w0 w L) (i : Nat) (he : L[i]? = some e) : e.P w := (h.good e (mem_of_at he)).2.1
theorem Own.row (h : Own w0 w L) (i : Nat) (he : L[i]? = some (rowE g t cs)) : Row w g t cs := h.at_ i he
theorem Own.own {base : Nat} {v : Value} {n : Nat} {xs : List Value} (h : Own w0 w L) (i : Nat) (he : L[i]? = some (ownE base t v n xs)) : w.ownsRow base t 1 v n xs := h.at_ i he
theorem Own.owns {base s : Nat} {v : Value} {n : Nat} {xs : List Value} (h : Own w0 w L) (i : Nat) (he : L[i]? = some (ownsE base t s v n xs)) : w.ownsRow base t s v n xs := h.at_ i he
theorem Own.lt (h : Own w0 w L) (i : Nat) (he : L[i]? = some e) {k : Nat} (hk : e.blk = some k) : k < w.heap.size := (h.good e (mem_of_at he)).1.2 w (h.at_ i he) k hk
theorem Own.le (h : Own w0 w L) (i : Nat) (he : L[i]? = some e) {k : Nat} (hk : e.blk = some k) : w0.heap.size ≤ k := (h.good e (mem_of_at he)).2.2 k hk
theorem Own.size (h : Own w0 w L) : w0.heap.size ≤ w.heap.size := h.grown.size
theorem Own.call (h : Own w0 w L) (hg : w.grownBy w' none) : Own w0 w' L :=
  ⟨grownBy_trans h.grown hg, fun e he => ⟨(h.good e he).1, (h.good e he).1.1 _ _ none (h.good e he).2.1 hg (by cases hb : e.blk with
    | none => exact .inl rfl
    | some k => exact .inr (by simp)), (h.good e he).2.2⟩, h.apart⟩
theorem Own.drewN (h : Own w0 w L) (n : Nat) : Own w0 (w.drewN n) L := h.call (grownBy_drewN (grownBy_refl _ _) n)
theorem Own.drew (h : Own w0 w L) : Own w0 w.drew L := h.call (grownBy_drew (grownBy_refl _ _))
theorem Own.newE (h : Own w0 w L) (hg : w.grownBy w' none) (hgood : e.good) (hP : e.P w') (hb : ∀ k, e.blk = some k → w.heap.size ≤ k) : Own w0 w' (e :: L) := by
  have h' := h.call hg
  refine ⟨h'.grown, ?_, ?_⟩
  · intro x hx
    rcases List.mem_cons.1 hx with rfl | hx
    · exact ⟨hgood, hP, fun k hk => Nat.le_trans h.grown.size (hb k hk)⟩
    · exact h'.good x hx
  · refine List.Pairwise.cons (fun y hy => ?_) h'.apart
    cases hk : e.blk with
    | none => exact .inl rfl
    | some k =>
      refine .inr fun he => ?_
      have h1 := hb k hk
      have h2 := (h.good y hy).1.2 w (h.good y hy).2.1 k he.symm
      omega
theorem Own.new (h : Own w0 w L) (hr : Row w' w.heap.size t cs) (hg : w.grownBy w' none) : Own w0 w' (rowE w.heap.size t cs :: L) :=
  h.newE hg (rowE_good _ _ _) hr (fun k hk => by cases hk; exact Nat.le_refl _)
theorem Own.alloc (h : Own w0 w L) (t : TypeId) (cs : List Value) : Own w0 (w.alloc (.cells cs.toArray t)) (rowE w.heap.size t cs :: L) :=
  h.new (Row.new w t cs) (World.grownBy_alloc _ _ none)
/-- a slice that a call has made -/
theorem Own.made {v : Value} {n s : Nat} {xs : List Value} (h : Own w0 w L) (hr : w'.ownsRow w.heap.size t s v n xs) (hg : w.grownBy w' none) : Own w0 w' (ownsE w.heap.size t s v n xs :: L) :=
  h.newE hg (ownsE_good _ _ _ _ _ _) hr (fun k hk => (World.ownsRow.lt hr k hk).1)
/-- a slice that is nil as yet -/
theorem Own.nilRow (h : Own w0 w L) (base : Nat) (t : TypeId) : Own w0 w (ownE base t (.slice none 0 0) 0 [] :: L) :=
  h.newE (grownBy_refl _ _) (ownE_good _ _ _ _ _) (World.ownsRow_nil w base t 1) (fun k hk => by cases hk)
theorem pair_get {R : Ent → Ent → Prop} (hs : ∀ x y, R x y → R y x) : ∀ {L : List Ent} {i j : Nat} {x y : Ent}, L.Pairwise R → L[i]? = some x → L[j]? = some y → i ≠ j → R x y := by
  intro L
  induction L with
  | nil => intro i j x y _ h; simp at h
  | cons z L ih =>
    intro i j x y hp hx hy hij
    rw [List.pairwise_cons] at hp
    cases i with
    | zero =>
      cases j with
      | zero => exact absurd rfl hij
      | succ j =>
        simp at hx hy
        subst hx
        exact hp.1 y (List.mem_of_getElem? hy)
    | succ i =>
      cases j with
      | zero =>
        simp at hx hy
        subst hy
        exact hs _ _ (hp.1 x (List.mem_of_getElem? hx))
      | succ j =>
        simp at hx hy
        exact ih hp.2 hx hy (by omega)
theorem pair_set {R : Ent → Ent → Prop} (hs : ∀ x y, R x y → R y x) : ∀ {L : List Ent} {i : Nat} {x : Ent}, L.Pairwise R → (∀ j y, L[j]? = some y → j ≠ i → R x y) → (L.set i x).Pairwise R := by
  intro L
  induction L with
  | nil => intro i x _ _; simp
  | cons z L ih =>
    intro i x hp hx
    rw [List.pairwise_cons] at hp
    cases i with
    | zero =>
      refine List.Pairwise.cons (fun y hy => ?_) hp.2
      obtain ⟨j, hj⟩ := List.getElem?_of_mem hy
      exact hx (j + 1) y (by simpa using hj) (by omega)
    | succ i =>
      refine List.Pairwise.cons (fun y hy => ?_) (ih hp.2 fun j y hj hne => hx (j + 1) y (by simpa using hj) (by omega))
      rcases List.mem_or_eq_of_mem_set hy with hy | rfl
      · exact hp.1 y hy
      · exact hs _ _ (hx 0 z (by simp) (by omega))
theorem apart_symm (x y : Ent) (h : x.blk = none ∨ x.blk ≠ y.blk) : y.blk = none ∨ y.blk ≠ x.blk := by
  rcases h with h | h
  · cases hy : y.blk with
    | none => exact .inl rfl
    | some k => exact .inr (by rw [h]; simp)
  · exact .inr (Ne.symm h)
/-- Entry i is written, or lies anew. -/
theorem Own.write (h : Own w0 w L) (i : Nat) (he : L[i]? = some e) (hgood : e'.good) (hP : e'.P w') (hg : w.grownBy w' e.blk) (hb : e'.blk = e.blk ∨ e'.blk = some w.heap.size) : Own w0 w' (L.set i e') := by
  have hmem := mem_of_at he
  have hg0 : w0.grownBy w' none := by
    cases hk : e.blk with
    | none => rw [hk] at hg; exact grownBy_trans h.grown hg
    | some k => rw [hk] at hg; exact grownBy_in h.grown hg ((h.good e hmem).2.2 k hk)
  have hkeep : ∀ j x, L[j]? = some x → j ≠ i → x.P w' := fun j x hx hj =>
    (h.good x (mem_of_at hx)).1.1 _ _ _ (h.at_ j hx) hg (pair_get apart_symm h.apart hx he hj)
  refine ⟨hg0, fun x hx => ?_, pair_set apart_symm h.apart fun j y hy hj => ?_⟩
  · obtain ⟨j, hj⟩ := List.getElem?_of_mem hx
    by_cases hij : i = j
    · subst hij
      have hlt : i < L.length := (List.getElem?_eq_some_iff.1 he).1
      rw [List.getElem?_set_self hlt] at hj
      cases hj
      refine ⟨hgood, hP, fun k hk => ?_⟩
      rcases hb with hb | hb
      · exact (h.good e hmem).2.2 k (hb ▸ hk)
      · rw [hb] at hk; cases hk; exact h.grown.size
    · rw [List.getElem?_set_ne hij] at hj
      have := h.good x (mem_of_at hj)
      exact ⟨this.1, hkeep j x hj (Ne.symm hij), this.2.2⟩
  · rcases hb with hb | hb
    · rw [hb]; exact pair_get apart_symm h.apart he hy (Ne.symm hj)
    · rw [hb]
      refine .inr fun heq => ?_
      have := (h.good y (mem_of_at hy)).1.2 w (h.at_ j hy) _ heq.symm
      omega
theorem Own.setRow (h : Own w0 w L) (i : Nat) (he : L[i]? = some (rowE g t cs)) {cs' : List Value} (hr : Row w' g t cs') (hg : w.grownBy w' (some g)) : Own w0 w' (L.set i (rowE g t cs')) :=
  h.write i he (rowE_good _ _ _) hr hg (.inl rfl)
theorem Own.set (h : Own w0 w L) (i : Nat) (he : L[i]? = some (rowE g t cs)) (j : Nat) (u : Value) : Own w0 (w.setCell ⟨g, j, none⟩ u) (L.set i (rowE g t (cs.set j u))) :=
  h.setRow i he ((h.row i he).set j u) (grownBy_set (grownBy_refl _ _) (.inr rfl) u)
/-- behind an append -/
theorem Own.append {base : Nat} {v v' : Value} {n n' : Nat} {xs xs' : List Value} (h : Own w0 w L) (i : Nat) (he : L[i]? = some (ownE base t v n xs)) (ho : w'.ownsRow base t 1 v' n' xs') (hg : w.grownBy w' v.ownBlock)
    (hb : v'.ownBlock = v.ownBlock ∨ v'.ownBlock = some w.heap.size) : Own w0 w' (L.set i (ownE base t v' n' xs')) :=
  h.write i he (ownE_good _ _ _ _ _) ho hg hb
theorem Own.sub {L' : List Ent} (h : Own w0 w L) (hs : L'.Sublist L) : Own w0 w L' :=
  ⟨h.grown, fun e he => h.good e (hs.subset he), h.apart.sublist hs⟩
theorem Own.tail (h : Own w0 w (e :: L)) : Own w0 w L := h.sub (List.sublist_cons_self e L)
theorem Own.swap {x y : Ent} (h : Own w0 w (x :: y :: L)) : Own w0 w (y :: x :: L) := by
  have h1 := h.apart
  simp only [List.pairwise_cons] at h1
  refine ⟨h.grown, fun e he => h.good e (by simp at he ⊢; rcases he with he | he | he <;> simp [he]), ?_⟩
  simp only [List.pairwise_cons]
  refine ⟨fun z hz => ?_, fun z hz => h1.1 z (by simp [hz]), h1.2.2⟩
  rcases List.mem_cons.1 hz with rfl | hz
  · exact apart_symm _ _ (h1.1 y (by simp))
  · exact h1.2.1 z hz
/-- one entry read another way -/
theorem Own.turn {i : Nat} (h : Own w0 w L) (he : L[i]? = some e) (hgood : e'.good) (hP : e'.P w) (hb : e'.blk = e.blk) : Own w0 w (L.set i e') :=
  h.write i he hgood hP (grownBy_refl _ _) (.inl hb)
/-- cells of the world in which the call began -/
theorem Own.cell (h : Own w0 w L) {p : Addr} {v : Value} (hv : w0.cell? p = some v) : w.cell? p = some v := h.grown.cell hv (by simp)
/-- from a later start -/
theorem Own.from_ (h : Own w0 w L) {a : World} (hg : a.grownBy w0 none) : Own a w L :=
  ⟨grownBy_trans hg h.grown, fun e he => ⟨(h.good e he).1, (h.good e he).2.1, fun k hk => Nat.le_trans hg.size ((h.good e he).2.2 k hk)⟩, h.apart⟩
theorem Own.of_eq {L' : List Ent} (h : Own w0 w L) (e : L = L') : Own w0 w L' := e ▸ h
end

/-- 'string(b)' at a slice of the call's own -/
theorem run_conv_own {P : Program} (w : World) (src dst e : TypeId) (hs : P.underlying src = some (.slice e)) (he : P.underlying e = some (.int .u8)) (hd : P.underlying dst = some .string)
    {base : Nat} {v : Value} {n : Nat} {l : List UInt8} (h : w.ownsRow base e 1 v n (c8 l)) : (convert src dst v).run P w = .ok (.string ⟨l.toArray⟩) w := by
  have hn : l.length = n := by simpa using h.1
  subst hn
  rcases Nat.eq_zero_or_pos l.length with h0 | h0
  · rcases h.2 with ⟨hv, _⟩ | ⟨g, cap, cur, hv, _⟩
    · have hl : l = [] := List.eq_nil_of_length_eq_zero h0
      subst hl
      rw [hv]
      exact Go.Lib.run_convert_nil_bytes w src dst e 0 hs he hd
    · rw [hv]
      exact run_convert_bytes_back w src dst e _ cap l hs he hd (fun j hj => by omega)
  · obtain ⟨g, cap, rfl, _, _, _, _, hc⟩ := own_form h h0
    refine run_convert_bytes_back w src dst e _ cap l hs he hd (fun j hj => ?_)
    rw [addr_add, Nat.zero_add, hc j _ (c8_get l j hj), n8]
    simp [hj]

/-! ### operations under a guard that is met -/
section
variable {P : Program}
theorem wpList_wanted {w : World} {ops : Array Oper} {rest : List Oper} {o : Oper} {a : Act} {Q : Exit → Act → World → Prop} (hgd : Region.wanted o (yielded ops a.tmps) = true)
    (h : ∀ K : Act → World → Prop, (∀ a w, wpList P ops Q rest a w → K a w) → o.wp P a w K Q) : wpList P ops Q (o :: rest) a w :=
  wpList_step fun K hK => by rw [if_pos hgd]; exact h K hK
theorem wp_val {w : World} {ops : Array Oper} {rest : List Oper} {o : Oper} {a : Act} {Q : Exit → Act → World → Prop} (hgd : Region.wanted o (yielded ops a.tmps) = true) (v : Value)
    (hr : (execOp a.eval o).run P w = .ok (.value v) w) (h : wpList P ops Q rest (a.put o.dst v) w) : wpList P ops Q (o :: rest) a w := by
  refine wpList_wanted hgd (fun K hK => ?_)
  unfold Oper.wp
  rw [hr]
  exact hK _ _ h
theorem wp_load {w : World} {ops : Array Oper} {rest : List Oper} {o : Oper} {a : Act} {Q : Exit → Act → World → Prop} (hgd : Region.wanted o (yielded ops a.tmps) = true) (ty : TypeId) (x : Operand) (ho : o.op = .load ty x)
    {d : TypeDesc} (hu : P.underlying ty = some d) (hd : isAggD d = true) (ad : Addr) (hx : a.eval x = .pointer (some ad)) (cs : List Value)
    (hi : (P.info? ty).map (·.size) = some cs.length) (hc : ∀ j v, cs[j]? = some v → w.cell? (ad.add j) = some v)
    (h : wpList P ops Q rest (a.put o.dst (.agg cs.toArray)) w) : wpList P ops Q (o :: rest) a w :=
  wp_val hgd _ (run_load_op ty x ho hu hd ad hx cs hi hc) h
end
end Go.Proofs.Ytpohjldhbaalbaa
