/- The document's list of nodes in memory: slices of nodes of 33 cells. -/
import Derived.Test.YtnlnkojcbjaeeaaFrom18
import Derived.Test.YtnlnkojcbjaeeaaStep18
import Derived.Test.YtnlnkojcbjaeeaaCmp18
namespace Go.Proofs.Ytnlnkojcbjaeeaa
set_option linter.unusedVariables false
set_option linter.unusedSimpArgs false
set_option linter.unusedSectionVars false
open Go.RowKit
set_option linter.unusedVariables false
def nd0 : Dg × Value := ([], .slice none 0 0)
def ndC (p : Dg × Value) : List Value := c8 p.1 ++ [p.2]
def ndCs (kv : KV) : List Value := kv.flatMap ndC
def K32 (kv : KV) : Prop := ∀ p ∈ kv, p.1.length = 32 ∧ ∃ A n c, p.2 = .slice A n c
theorem K32.nil : K32 [] := fun p hp => by cases hp
theorem K32.snoc {kv : KV} (h : K32 kv) {p : Dg × Value} (hp : p.1.length = 32) (hq : ∃ A n c, p.2 = .slice A n c) : K32 (kv ++ [p]) := fun q hm => by
  rcases List.mem_append.1 hm with hm | hm
  · exact h q hm
  · rw [List.mem_singleton.1 hm]; exact ⟨hp, hq⟩
theorem getD_mem {α : Type} {l : List α} {i : Nat} (h : i < l.length) (z : α) : l.getD i z ∈ l := by
  rw [List.getD_eq_getElem?_getD, List.getElem?_eq_getElem h]; exact List.getElem_mem h
theorem K32.at_ {kv : KV} (h : K32 kv) (i : Nat) (hi : i < kv.length) : (kv.getD i nd0).1.length = 32 ∧ ∃ A n c, (kv.getD i nd0).2 = .slice A n c := h _ (getD_mem hi _)
theorem ndC_len {p : Dg × Value} (h : p.1.length = 32) : (ndC p).length = 33 := by unfold ndC; simp [h]
theorem ndCs_len : ∀ {kv : KV}, K32 kv → (ndCs kv).length = kv.length * 33
  | [], _ => rfl
  | p :: kv, h => by
    unfold ndCs
    rw [List.flatMap_cons, List.length_append, ndC_len (h p (by simp)).1, List.length_cons]
    have := ndCs_len (kv := kv) (fun q hq => h q (by simp [hq]))
    unfold ndCs at this
    omega
theorem ndC_one {p : Dg × Value} (h : ∃ A n c, p.2 = .slice A n c) : ∀ v ∈ ndC p, v.oneCell' = true := by
  intro v hv
  rcases List.mem_append.1 hv with hv | hv
  · exact one8 _ v hv
  · obtain ⟨A, n, c, h⟩ := h
    rw [List.mem_singleton.1 hv, h]; rfl
theorem ndCs_at : ∀ {kv : KV} (h : K32 kv) (i j : Nat), i < kv.length → j < 33 → (ndCs kv)[i * 33 + j]? = (ndC (kv.getD i nd0))[j]?
  | [], _, i, j, hi, _ => by simp at hi
  | p :: kv, h, 0, j, _, hj => by
    unfold ndCs
    rw [List.flatMap_cons, Nat.zero_mul, Nat.zero_add, List.getElem?_append_left (by rw [ndC_len (h p (by simp)).1]; exact hj)]
    rfl
  | p :: kv, h, i + 1, j, hi, hj => by
    have hp := ndC_len (h p (by simp)).1
    unfold ndCs
    rw [List.flatMap_cons, List.getElem?_append_right (by omega), show (i + 1) * 33 + j - (ndC p).length = i * 33 + j by omega]
    exact ndCs_at (kv := kv) (fun q hq => h q (by simp [hq])) i j (by simpa using hi) hj
/-- '.slice A n c' reads as these nodes -/
structure NdIn (w : World) (A : Option Addr) (c : Nat) (kv : KV) : Prop where
  k32 : K32 kv
  le : kv.length ≤ c
  cells : 0 < kv.length → ∃ b off, A = some ⟨b, off, none⟩ ∧ ∀ j u, (ndCs kv)[j]? = some u → w.cell? ⟨b, off + j, none⟩ = some u
section
variable {w w' : World} {A : Option Addr} {c : Nat} {kv : KV}
theorem NdIn.keep (h : NdIn w A c kv) (hg : w.grownBy w' none) : NdIn w' A c kv := ⟨h.k32, h.le, fun h0 => by
  obtain ⟨b, off, h1, h2⟩ := h.cells h0
  exact ⟨b, off, h1, fun j u hu => hg.cell (h2 j u hu) (by simp)⟩⟩
theorem NdIn.at_ (h : NdIn w A c kv) (i : Nat) (hi : i < kv.length) : ∃ b off, A = some ⟨b, off, none⟩ ∧ ∀ j u, (ndC (kv.getD i nd0))[j]? = some u → w.cell? ((⟨b, off + i * 33, none⟩ : Addr).add j) = some u := by
  obtain ⟨b, off, h1, h2⟩ := h.cells (by omega)
  refine ⟨b, off, h1, fun j u hu => ?_⟩
  have hj : j < 33 := by have := (List.getElem?_eq_some_iff.1 hu).1; rw [ndC_len (h.k32.at_ i hi).1] at this; exact this
  rw [addr_add, Nat.add_assoc]
  exact h2 _ u (by rw [ndCs_at h.k32 i j hi hj]; exact hu)
/-- the node's sum -/
theorem NdIn.sum (h : NdIn w A c kv) (i : Nat) (hi : i < kv.length) : ∃ b off, A = some ⟨b, off, none⟩ ∧ (∀ j u, (c8 (kv.getD i nd0).1)[j]? = some u → w.cell? ((⟨b, off + i * 33, none⟩ : Addr).add j) = some u) ∧ w.cell? ⟨b, off + i * 33 + 32, none⟩ = some (kv.getD i nd0).2 := by
  obtain ⟨b, off, h1, h2⟩ := h.at_ i hi
  have hl := (h.k32.at_ i hi).1
  refine ⟨b, off, h1, fun j u hu => h2 j u ?_, ?_⟩
  · unfold ndC
    rw [List.getElem?_append_left (List.getElem?_eq_some_iff.1 hu).1]; exact hu
  · obtain ⟨p, hp⟩ : ∃ p, p = kv.getD i nd0 := ⟨_, rfl⟩
    rw [← hp] at h2 hl ⊢
    have := h2 32 p.2 (by unfold ndC; rw [List.getElem?_append_right (by simp [hl])]; simp [hl])
    rwa [addr_add] at this
end
def OwnsN (w : World) (base : Nat) (v : Value) (kv : KV) : Prop := K32 kv ∧ w.ownsRow base 64 33 v kv.length (ndCs kv)
def nodesE (base : Nat) (v : Value) (kv : KV) : Ent := ⟨v.ownBlock, fun w => OwnsN w base v kv⟩
theorem nodesE_good (base : Nat) (v : Value) (kv : KV) : (nodesE base v kv).good :=
  ⟨fun _ _ _ h hg hr => ⟨h.1, World.ownsRow.kept h.2 hg hr⟩, fun _ h k hk => (World.ownsRow.lt h.2 k hk).2⟩
theorem Own.nodes {w0 w : World} {L : List Ent} {base : Nat} {v : Value} {l : KV} (h : Own w0 w L) (i : Nat) (he : L[i]? = some (nodesE base v l)) : OwnsN w base v l := h.at_ i he
theorem Own.appendN {w0 w w' : World} {L : List Ent} {base : Nat} {v v' : Value} {xs xs' : KV} (h : Own w0 w L) (i : Nat) (he : L[i]? = some (nodesE base v xs)) (ho : OwnsN w' base v' xs') (hg : w.grownBy w' v.ownBlock)
    (hb : v'.ownBlock = v.ownBlock ∨ v'.ownBlock = some w.heap.size) : Own w0 w' (L.set i (nodesE base v' xs')) :=
  h.write i he (nodesE_good _ _ _) ho hg hb
theorem Own.nilN {w0 w : World} {L : List Ent} (h : Own w0 w L) (base : Nat) : Own w0 w (nodesE base (.slice none 0 0) [] :: L) :=
  h.newE (grownBy_refl _ _) (nodesE_good _ _ _) ⟨K32.nil, World.ownsRow_nil w base _ 33⟩ (fun k hk => by cases hk)
theorem Own.lowerN {w0 w : World} {L : List Ent} {base : Nat} {v : Value} {l : KV} (h : Own w0 w L) (i : Nat) (he : L[i]? = some (nodesE base v l)) : Own w0 w (L.set i (nodesE w0.heap.size v l)) := by
  refine h.turn he (nodesE_good _ _ _) ?_ rfl
  obtain ⟨hall, hl, ho⟩ := h.nodes i he
  refine ⟨hall, hl, ?_⟩
  rcases ho with ho | ⟨g, cap, cur, hv, hb, x⟩
  · exact .inl ho
  · exact .inr ⟨g, cap, cur, hv, h.le i he (k := g) (by show v.ownBlock = some g; rw [hv]; rfl), x⟩
theorem ownsN_open {w : World} {base : Nat} {v : Value} {kv : KV} (h : OwnsN w base v kv) : ∃ A c, v = .slice A kv.length c ∧ NdIn w A c kv ∧ c ≤ 9223372036854775807 := by
  obtain ⟨hall, hl, ho⟩ := h
  rcases ho with ⟨hv, hn⟩ | ⟨g, cap, cur, hv, hb, hg, hnc, hcm, hcs, ht⟩
  · have hL : kv = [] := List.eq_nil_of_length_eq_zero hn
    subst hL
    exact ⟨none, 0, hv, ⟨K32.nil, by simp, fun h => by simp at h⟩, by omega⟩
  · refine ⟨some ⟨g, 0, none⟩, cap, hv, ⟨hall, hnc, fun h0 => ⟨g, 0, rfl, fun j u hu => ?_⟩⟩, by simpa [maxLen] using hcm⟩
    have hj : j < (ndCs kv).length := (List.getElem?_eq_some_iff.1 hu).1
    have hj2 : j < kv.length * 33 := by rw [← ndCs_len hall]; exact hj
    rw [← ht, List.getElem?_take, if_pos hj2] at hu
    rw [Nat.zero_add]
    simp [World.cell?, hg]
    simpa using hu
theorem ownsN_at {w : World} {base m : Nat} {v : Value} {kv : KV} (h : OwnsN w base v kv) (hm : kv.length = m) : ∃ A c, v = .slice A m c ∧ NdIn w A c kv ∧ c ≤ 9223372036854775807 := by
  subst hm; exact ownsN_open h
theorem info_rn : (Try.prog.info? 64).map (fun i => (i.zero.map (fun z => z.cells.size), i.size, i.bytes)) = some (some 33, 33, 56) := by kernel_rfl
theorem info_zn : (Try.prog.info? 64).map (fun i => (i.zero.isSome, i.size)) = some (true, 33) := by kernel_rfl
theorem info_nd {p : Dg × Value} (h : p.1.length = 32) : (Try.prog.info? 64).map (·.size) = some (ndC p).length := by rw [ndC_len h]; kernel_rfl
/-- 'append(s, x)' of one node to a slice of the call's own -/
theorem wp_appN {w : World} {ops : Array Oper} {rest : List Oper} {o : Oper} {a : Act} {Q : Exit → Act → World → Prop} (hgd : o.guard = none) (s x : Operand)
    (ho : o.op = .call { callee := .builtin .append, args := #[s, x], argTypes := #[26, 26] })
    {base : Nat} {v : Value} (kv kv' : KV) (hs : a.eval s = v) (hown : OwnsN w base v kv)
    (g : Nat) (p : Dg × Value) (hx : a.eval x = .slice (some ⟨g, 0, none⟩) 1 1) (hp : p.1.length = 32) (hq : ∃ A n c, p.2 = .slice A n c) (hsrc : Row w g 64 (ndC p)) (hn : kv' = kv ++ [p])
    (hmax : kv.length ≤ 1000000) (hbase : base ≤ w.heap.size)
    (h : ∀ v' w', OwnsN w' base v' kv' → w.grownBy w' v.ownBlock → (v'.ownBlock = v.ownBlock ∨ v'.ownBlock = some w.heap.size) → wpList Try.prog ops Q rest (a.put o.dst v') w') :
    wpList Try.prog ops Q (o :: rest) a w := by
  have hi := info_rn
  cases hqi : Try.prog.info? 64 with
  | none => simp [hqi] at hi
  | some i =>
    simp only [hqi, Option.map_some, Option.some.injEq, Prod.mk.injEq] at hi
    obtain ⟨hz0, hsz, hby⟩ := hi
    obtain ⟨z, hz⟩ : ∃ z, i.zero = some z := by
      cases hz : i.zero with
      | none => simp [hz] at hz0
      | some z => exact ⟨z, rfl⟩
    have hzs : z.cells.size = 33 := by simpa [hz] using hz0
    refine wpList_append_own_at w hgd s x 26 ho base 64 i z 33 56 Try.underlying26 hqi hz hsz hby hzs (by decide) v kv.length (ndCs kv) hs hown.2 ⟨g, 0, none⟩ 1 1 (ndC p) hx (by rw [ndC_len hp]) (row_all hsrc) (ndC_one hq) (by unfold maxLen; omega) (by omega) hbase ?_
    intro v' w' h2 h3 _ h5
    refine h v' w' ⟨by rw [hn]; exact hown.1.snoc hp hq, ?_⟩ h3 h5
    have e1 : kv'.length = kv.length + 1 := by rw [hn]; simp
    have e2 : ndCs kv' = ndCs kv ++ ndC p := by rw [hn]; simp [ndCs]
    rw [e1, e2]; exact h2
/-- the rows of the nodes' edges -/
def RowsOf (w : World) (kv : KV) (ns : Nodes) : Prop := All2 (fun (p : Dg × Value) (n : Dg × List Dg) => p.1 = n.1 ∧ ∃ At ct, p.2 = .slice At n.2.length ct ∧ Rows32 w At ct n.2) kv ns
def EdgesR (es : List Ent) (kv : KV) (ns : Nodes) : Prop := All2 (fun (p : Dg × Value) (n : Dg × List Dg) => p.1 = n.1 ∧ ∃ base, rowsE base 29 p.2 n.2 ∈ es) kv ns
theorem All2.imp {α β : Type} {R S : α → β → Prop} {l : List α} {m : List β} (h : All2 R l m) (hf : ∀ a b, R a b → S a b) : All2 S l m := by
  induction h with
  | nil => exact .nil
  | cons hp _ ih => exact .cons (hf _ _ hp) ih
theorem All2.get {α β : Type} {R : α → β → Prop} {l : List α} {m : List β} (h : All2 R l m) (a : α) (b : β) : ∀ i, i < l.length → R (l.getD i a) (m.getD i b) := by
  induction h with
  | nil => intro i hi; simp at hi
  | cons hp _ ih =>
    intro i hi
    cases i with
    | zero => exact hp
    | succ i => exact ih i (by simpa using hi)
theorem All2.app {α β : Type} {R : α → β → Prop} {l l' : List α} {m m' : List β} (h : All2 R l m) (h' : All2 R l' m') : All2 R (l ++ l') (m ++ m') := by
  induction h with
  | nil => exact h'
  | cons hp _ ih => exact .cons hp ih
theorem All2.take {α β : Type} {R : α → β → Prop} {l : List α} {m : List β} (h : All2 R l m) : ∀ k, All2 R (l.take k) (m.take k) := by
  induction h with
  | nil => intro k; simp; exact .nil
  | cons hp _ ih =>
    intro k
    cases k with
    | zero => exact .nil
    | succ k => exact .cons hp (ih k)
theorem All2.drop {α β : Type} {R : α → β → Prop} {l : List α} {m : List β} (h : All2 R l m) : ∀ k, All2 R (l.drop k) (m.drop k) := by
  induction h with
  | nil => intro k; simp; exact .nil
  | cons hp ht ih =>
    intro k
    cases k with
    | zero => exact .cons hp ht
    | succ k => exact ih k
theorem All2.filt {α β : Type} {R : α → β → Prop} {p : α → Bool} {q : β → Bool} {l : List α} {m : List β} (h : All2 R l m) (hpq : ∀ a b, R a b → p a = q b) : All2 R (l.filter p) (m.filter q) := by
  induction h with
  | nil => exact .nil
  | @cons a b l m hp ht ih =>
    have := hpq _ _ hp
    cases hpa : p a with
    | true => rw [List.filter_cons_of_pos hpa, List.filter_cons_of_pos (by rw [← this]; exact hpa)]; exact .cons hp ih
    | false => rw [List.filter_cons_of_neg (by simp [hpa]), List.filter_cons_of_neg (by rw [← this]; simp [hpa])]; exact ih
theorem EdgesR.mono {es es' : List Ent} {kv : KV} {ns : Nodes} (h : EdgesR es kv ns) (hs : ∀ e ∈ es, e ∈ es') : EdgesR es' kv ns := h.imp fun _ _ hp => ⟨hp.1, hp.2.imp fun _ hb => hs _ hb⟩
theorem EdgesR.more {es : List Ent} {kv : KV} {ns : Nodes} {x : Ent} (h : EdgesR es kv ns) : EdgesR (x :: es) kv ns := h.mono fun _ hx => List.mem_cons_of_mem _ hx
theorem RowsOf.keep {w w' : World} {kv : KV} {ns : Nodes} (h : RowsOf w kv ns) (hg : w.grownBy w' none) : RowsOf w' kv ns := h.imp fun _ _ hp => ⟨hp.1, by obtain ⟨At, ct, h1, h2⟩ := hp.2; exact ⟨At, ct, h1, h2.keep hg⟩⟩
theorem EdgesR.rows {w0 w : World} {es : List Ent} {kv : KV} {ns : Nodes} (h : EdgesR es kv ns) (hS : Own w0 w es) : RowsOf w kv ns := h.imp fun p n hp => ⟨hp.1, by
  obtain ⟨base, hb⟩ := hp.2
  obtain ⟨At, ct, h1, h2, _⟩ := ownsR_open (hS.good _ hb).2.1
  exact ⟨At, ct, h1, h2⟩⟩
def n0 : Dg × List Dg := ([], [])
theorem RowsOf.at_ {w : World} {kv : KV} {ns : Nodes} (h : RowsOf w kv ns) (i : Nat) (hi : i < kv.length) : (kv.getD i nd0).1 = (ns.getD i n0).1 ∧ ∃ At ct, (kv.getD i nd0).2 = .slice At (ns.getD i n0).2.length ct ∧ Rows32 w At ct (ns.getD i n0).2 := h.get _ _ i hi
/-- where a sum stands, or would stand -/
def findR {α : Type} (l : List (Dg × α)) (d : Dg) : Nat := (l.takeWhile (fun p => belL p.1 d)).length
def putR {α : Type} (l : List (Dg × α)) (d : Dg) (a : α) : List (Dg × α) := l.take (findR l d) ++ [(d, a)] ++ (l.drop (findR l d)).filter (fun p => p.1 != d)
def delR {α : Type} (l : List (Dg × α)) (d : Dg) : List (Dg × α) := l.filter (fun p => p.1 != d)
theorem findR_le {α : Type} (l : List (Dg × α)) (d : Dg) : findR l d ≤ l.length := (List.takeWhile_sublist _).length_le
theorem findR_cons {α : Type} (p : Dg × α) (l : List (Dg × α)) (d : Dg) : findR (p :: l) d = if belL p.1 d = true then findR l d + 1 else 0 := by
  unfold findR
  rw [List.takeWhile_cons]
  split <;> simp
theorem findR_map {kv : KV} {ns : Nodes} {R : Dg × Value → Dg × List Dg → Prop} (h : All2 R kv ns) (hR : ∀ p n, R p n → p.1 = n.1) (d : Dg) : findR kv d = findR ns d := by
  induction h with
  | nil => rfl
  | cons hp _ ih => rw [findR_cons, findR_cons, ih, hR _ _ hp]
theorem EdgesR.put {es : List Ent} {kv : KV} {ns : Nodes} (h : EdgesR es kv ns) (d : Dg) (l : List Dg) (v : Value) (hv : ∃ base, rowsE base 29 v l ∈ es) : EdgesR es (putR kv d v) (putR ns d l) := by
  have hf := findR_map h (fun p n hp => hp.1) d
  unfold putR
  rw [hf]
  exact ((h.take _).app (.cons ⟨rfl, hv⟩ .nil)).app ((h.drop _).filt fun p n hp => by rw [hp.1])
theorem EdgesR.del {es : List Ent} {kv : KV} {ns : Nodes} (h : EdgesR es kv ns) (d : Dg) : EdgesR es (delR kv d) (delR ns d) := h.filt fun p n hp => by rw [hp.1]
end Go.Proofs.Ytnlnkojcbjaeeaa
