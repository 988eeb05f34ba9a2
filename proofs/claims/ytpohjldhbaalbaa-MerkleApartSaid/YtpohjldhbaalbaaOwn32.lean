/- Slices of arrays of 32 bytes: lists of lists of bytes. -/
import Derived.Test.YtpohjldhbaalbaaOwn4
import Derived.Test.YtpohjldhbaalbaaEq
namespace Go.Proofs.Ytpohjldhbaalbaa
set_option linter.unusedVariables false
set_option linter.unusedSimpArgs false
set_option linter.unusedSectionVars false
open Go.RowKit
set_option linter.unusedVariables false

def L32 (L : List (List UInt8)) : Prop := ∀ x ∈ L, x.length = 32
theorem flatten_len : ∀ {L : List (List UInt8)}, L32 L → L.flatten.length = L.length * 32
  | [], _ => rfl
  | x :: r, h => by
    rw [List.flatten_cons, List.length_append, flatten_len (L := r) (fun y hy => h y (by simp [hy])), h x (by simp), List.length_cons]; omega
theorem flatten_take : ∀ {L : List (List UInt8)} (k : Nat), L32 L → (L.take k).flatten = L.flatten.take (k * 32)
  | [], k, _ => by simp
  | x :: r, 0, _ => by simp
  | x :: r, k + 1, h => by
    have hx := h x (by simp)
    rw [List.take_succ_cons, List.flatten_cons, List.flatten_cons, flatten_take k (fun y hy => h y (by simp [hy])), List.take_append, List.take_of_length_le (by omega : x.length ≤ (k + 1) * 32), hx, show (k + 1) * 32 - 32 = k * 32 by omega]
theorem flatten_drop : ∀ {L : List (List UInt8)} (k : Nat), L32 L → (L.drop k).flatten = L.flatten.drop (k * 32)
  | [], k, _ => by simp
  | x :: r, 0, _ => by simp
  | x :: r, k + 1, h => by
    have hx := h x (by simp)
    rw [List.drop_succ_cons, List.flatten_cons, flatten_drop k (fun y hy => h y (by simp [hy])), List.drop_append, List.drop_of_length_le (by omega : x.length ≤ (k + 1) * 32), hx, show (k + 1) * 32 - 32 = k * 32 by omega, List.nil_append]
theorem flatten_at {L : List (List UInt8)} (h : L32 L) (i : Nat) (hi : i < L.length) : (L.flatten.drop (i * 32)).take 32 = L.getD i [] := by
  rw [← flatten_drop i h]
  have e : L.drop i = L[i] :: L.drop (i + 1) := List.drop_eq_getElem_cons hi
  rw [e, List.flatten_cons, List.take_append_of_le_length (by rw [h _ (List.getElem_mem hi)]; exact Nat.le_refl _), List.take_of_length_le (by rw [h _ (List.getElem_mem hi)]; exact Nat.le_refl _)]
  simp [hi]
theorem L32.take {L : List (List UInt8)} (h : L32 L) (k : Nat) : L32 (L.take k) := fun x hx => h x (List.mem_of_mem_take hx)
theorem L32.drop {L : List (List UInt8)} (h : L32 L) (k : Nat) : L32 (L.drop k) := fun x hx => h x (List.mem_of_mem_drop hx)
theorem L32.at_ {L : List (List UInt8)} (h : L32 L) (i : Nat) (hi : i < L.length) : (L.getD i []).length = 32 := by
  have : L.getD i [] = L[i] := by simp [hi]
  rw [this]; exact h _ (List.getElem_mem hi)
theorem L32.snoc {L : List (List UInt8)} (h : L32 L) {x : List UInt8} (hx : x.length = 32) : L32 (L ++ [x]) := by
  intro y hy
  rcases List.mem_append.1 hy with hy | hy
  · exact h y hy
  · rw [List.mem_singleton.1 hy]; exact hx
theorem L32.nil : L32 [] := fun x hx => by cases hx

/-- '.slice A L.length c' reads as the list L -/
structure Rows32 (w : World) (A : Option Addr) (c : Nat) (L : List (List UInt8)) : Prop where
  all : L32 L
  le : L.length ≤ c
  nil : A = none → c = 0
  bytes : Bytes w A L.flatten
section
variable {w w' : World} {A : Option Addr} {c : Nat} {L : List (List UInt8)}
theorem Rows32.keep (h : Rows32 w A c L) (hg : w.grownBy w' none) : Rows32 w' A c L := ⟨h.all, h.le, h.nil, h.bytes.keep hg⟩
theorem Rows32.drew (h : Rows32 w A c L) : Rows32 w.drew A c L := ⟨h.all, h.le, h.nil, h.bytes⟩
theorem Rows32.none_ (w : World) : Rows32 w none 0 [] := ⟨L32.nil, by simp, fun _ => rfl, Bytes.nil _ _⟩
theorem Rows32.src (h : Rows32 w A c L) : Src w A c (c8 L.flatten) := by
  cases hA : A with
  | none =>
    have hc := h.nil hA
    have hl : L = [] := List.eq_nil_of_length_eq_zero (by have := h.le; omega)
    subst hl
    exact .inl ⟨rfl, rfl, hc⟩
  | some ad =>
    refine .inr ⟨ad, rfl, fun j u hu => ?_⟩
    have hj : j < L.flatten.length := by have := (List.getElem?_eq_some_iff.1 hu).1; simpa using this
    obtain ⟨b, off, hb, hc⟩ := h.bytes (by omega)
    rw [hA] at hb
    injection hb with hb
    subst hb
    rw [addr_add, hc j hj, ← c8_get _ j hj, hu]
/-- row i: where it lies, its cells -/
theorem Rows32.at_ (h : Rows32 w A c L) (i : Nat) (hi : i < L.length) : ∃ b off, A = some ⟨b, off, none⟩ ∧ ∀ j u, (c8 (L.getD i []))[j]? = some u → w.cell? ((⟨b, off + i * 32, none⟩ : Addr).add j) = some u := by
  have hfl := flatten_len h.all
  obtain ⟨b, off, hb, hc⟩ := h.bytes (by omega)
  refine ⟨b, off, hb, fun j u hu => ?_⟩
  have hj : j < 32 := by have := (List.getElem?_eq_some_iff.1 hu).1; rw [c8_length, h.all.at_ i hi] at this; exact this
  have hl : i * 32 + j < L.flatten.length := by rw [hfl]; omega
  rw [addr_add, Nat.add_assoc, hc _ hl, ← c8_get _ _ hl, ← hu, ← flatten_at h.all i hi]
  simp only [c8, List.map_take, List.map_drop, List.getElem?_take, if_pos hj, List.getElem?_drop]
theorem Rows32.take (h : Rows32 w A c L) (k : Nat) (hk : k ≤ L.length) : Rows32 w A c (L.take k) :=
  ⟨h.all.take k, by have := h.le; simp; omega, h.nil, by rw [flatten_take k h.all]; exact bytes_take32 h.bytes _⟩
  where
  bytes_take32 {w : World} {A : Option Addr} {p : List UInt8} (h : Bytes w A p) (k : Nat) : Bytes w A (p.take k) := by
    intro h0
    have hl : (p.take k).length ≤ p.length := by simp; omega
    obtain ⟨b, off, rfl, _, hc⟩ := h.at_ (by omega)
    refine ⟨b, off, rfl, fun j hj => ?_⟩
    rw [hc j (by omega)]
    have : j < k := by simp at hj; omega
    simp [List.getD_eq_getElem?_getD, List.getElem?_take, this]
theorem Rows32.drop (h : Rows32 w A c L) (k : Nat) (hk : k ≤ L.length) : Rows32 w (if c = k then A else A.map fun ad => ad.add (k * 32)) (c - k) (L.drop k) := by
  refine ⟨h.all.drop k, by have := h.le; simp; omega, ?_, ?_⟩
  · intro hn
    split at hn
    · omega
    · have : A = none := by cases A with
        | none => rfl
        | some a => simp at hn
      have := h.nil this
      omega
  · rw [flatten_drop k h.all]
    intro h0
    have hfl := flatten_len h.all
    have hk' : k * 32 < L.flatten.length := by rw [List.length_drop] at h0; omega
    rw [if_neg (by have := h.le; omega)]
    obtain ⟨b, off, rfl, _, hc⟩ := h.bytes.at_ (by omega)
    refine ⟨b, off + k * 32, by simp [addr_add], fun j hj => ?_⟩
    rw [Nat.add_assoc, hc (k * 32 + j) (by rw [List.length_drop] at hj; omega)]
    simp [List.getD_eq_getElem?_getD]
end
section
variable {P : Program}
/-- 's[:k]' -/
theorem run_to32 {t e : TypeId} (ht : P.underlying t = some (.slice e)) (hs : (P.info? e).map (·.size) = some 32) (A : Option Addr) (len cap k : Nat) (h2 : k ≤ cap) (W : World) :
    (Instr.slice t (.slice A len cap) none (some (.int .i64 (k : Int))) none).run P W = .ok (.slice A k cap) W := by
  have hel : P.elem t = e := by simp [Program.elem, ht]
  cases hq : P.info? e with
  | none => simp [hq] at hs
  | some i =>
    have hi : i.size = 32 := by simpa [hq] using hs
    rw [run_slice_h W t A len cap (by rw [hel]; exact ht) .i64 (k : Int) (by omega) (by omega)]
    have hce : P.cellsOf e = 32 := by simp [Program.cellsOf, hq, hi]
    rw [hel, run_sizeOf W hq, hce]
    have e0 : ∀ ad : Addr, ad.add 0 = ad := fun ad => by unfold Addr.add; split <;> simp_all
    simp [Result.andThen, sliced]
    intro _
    cases A <;> simp [e0]
/-- 's[k:]' -/
theorem run_from32 {t e : TypeId} (ht : P.underlying t = some (.slice e)) (hs : (P.info? e).map (·.size) = some 32) (A : Option Addr) (len cap k : Nat) (h1 : k ≤ len) (h2 : len ≤ cap) (W : World) :
    (Instr.slice t (.slice A len cap) (some (.int .i64 (k : Int))) none none).run P W = .ok (.slice (if cap = k then A else A.map fun ad => ad.add (k * 32)) (len - k) (cap - k)) W := by
  have hel : P.elem t = e := by simp [Program.elem, ht]
  cases hq : P.info? e with
  | none => simp [hq] at hs
  | some i =>
    have hi : i.size = 32 := by simpa [hq] using hs
    rw [run_slice_l W t A len cap (by rw [hel]; exact ht) .i64 (k : Int) (by omega) (by omega)]
    have hce : P.cellsOf e = 32 := by simp [Program.cellsOf, hq, hi]
    rw [hel, run_sizeOf W hq, hce]
    simp [Result.andThen, sliced]
end

/-! ### slices of the call's own -/
def OwnsR (w : World) (base : Nat) (e : TypeId) (v : Value) (L : List (List UInt8)) : Prop := L32 L ∧ w.ownsRow base e 32 v L.length (c8 L.flatten)
def rowsE (base : Nat) (e : TypeId) (v : Value) (L : List (List UInt8)) : Ent := ⟨v.ownBlock, fun w => OwnsR w base e v L⟩
theorem rowsE_good (base : Nat) (e : TypeId) (v : Value) (L : List (List UInt8)) : (rowsE base e v L).good :=
  ⟨fun _ _ _ h hg hr => ⟨h.1, World.ownsRow.kept h.2 hg hr⟩, fun _ h k hk => (World.ownsRow.lt h.2 k hk).2⟩
theorem Own.rows {w0 w : World} {L : List Ent} {base : Nat} {e : TypeId} {v : Value} {l : List (List UInt8)} (h : Own w0 w L) (i : Nat) (he : L[i]? = some (rowsE base e v l)) : OwnsR w base e v l := h.at_ i he
theorem Own.appendR {w0 w w' : World} {L : List Ent} {t : TypeId} {base : Nat} {v v' : Value} {xs xs' : List (List UInt8)} (h : Own w0 w L) (i : Nat) (he : L[i]? = some (rowsE base t v xs)) (ho : OwnsR w' base t v' xs') (hg : w.grownBy w' v.ownBlock)
    (hb : v'.ownBlock = v.ownBlock ∨ v'.ownBlock = some w.heap.size) : Own w0 w' (L.set i (rowsE base t v' xs')) :=
  h.write i he (rowsE_good _ _ _ _) ho hg hb
theorem Own.nilR {w0 w : World} {L : List Ent} (h : Own w0 w L) (base : Nat) (t : TypeId) : Own w0 w (rowsE base t (.slice none 0 0) [] :: L) :=
  h.newE (grownBy_refl _ _) (rowsE_good _ _ _ _) ⟨L32.nil, World.ownsRow_nil w base t 32⟩ (fun k hk => by cases hk)
theorem Own.madeR {w0 w w' : World} {L : List Ent} {t : TypeId} {v : Value} {l : List (List UInt8)} (h : Own w0 w L) (ho : OwnsR w' w.heap.size t v l) (hg : w.grownBy w' none) : Own w0 w' (rowsE w.heap.size t v l :: L) :=
  h.newE hg (rowsE_good _ _ _ _) ho (fun k hk => (World.ownsRow.lt ho.2 k hk).1)
theorem ownsR_open {w : World} {base : Nat} {e : TypeId} {v : Value} {L : List (List UInt8)} (h : OwnsR w base e v L) : ∃ A c, v = .slice A L.length c ∧ Rows32 w A c L ∧ c ≤ 9223372036854775807 := by
  obtain ⟨hall, hl, ho⟩ := h
  rcases ho with ⟨hv, hn⟩ | ⟨g, cap, cur, hv, hb, hg, hnc, hcm, hcs, ht⟩
  · have hL : L = [] := List.eq_nil_of_length_eq_zero hn
    subst hL
    exact ⟨none, 0, hv, Rows32.none_ w, by omega⟩
  · refine ⟨some ⟨g, 0, none⟩, cap, hv, ⟨hall, hnc, (fun h => by cases h), fun h0 => ⟨g, 0, rfl, fun j hj => ?_⟩⟩, by simpa [maxLen] using hcm⟩
    have h1 : (c8 L.flatten)[j]? = some (.int .u8 (n8 (L.flatten.getD j 0))) := c8_get _ j hj
    have hj2 : j < L.length * 32 := by rw [← flatten_len hall]; exact hj
    rw [← ht, List.getElem?_take, if_pos hj2] at h1
    rw [Nat.zero_add]
    simp [World.cell?, hg]
    simpa using h1
theorem OwnsR.mono {w : World} {base base' : Nat} {e : TypeId} {v : Value} {L : List (List UInt8)} (h : OwnsR w base e v L) (hb : base' ≤ base) : OwnsR w base' e v L := by
  obtain ⟨hall, hl, ho⟩ := h
  refine ⟨hall, hl, ?_⟩
  rcases ho with ho | ⟨g, cap, cur, hv, hb', x⟩
  · exact .inl ho
  · exact .inr ⟨g, cap, cur, hv, Nat.le_trans hb hb', x⟩
/-- 'append(s, x...)' of rows to a slice of the call's own -/
theorem wp_appR {P : Program} {w : World} {ops : Array Oper} {rest : List Oper} {o : Oper} {a : Act} {Q : Exit → Act → World → Prop} (hgd : o.guard = none) (s x : Operand) (t : TypeId)
    (ho : o.op = .call { callee := .builtin .append, args := #[s, x], argTypes := #[t, t] })
    (e : TypeId) (ht : P.underlying t = some (.slice e)) (hi : (P.info? e).map (fun i => (i.zero.map (fun z => z.cells.size), i.size, i.bytes)) = some (some 32, 32, 32))
    {base : Nat} {v : Value} (L L' : List (List UInt8)) (hs : a.eval s = v) (hown : OwnsR w base e v L)
    (A : Option Addr) (m c : Nat) (news : List (List UInt8)) (hx : a.eval x = .slice A m c) (hall : L32 news) (hsrc : Src w A c (c8 news.flatten)) (hl : news.length = m) (hn : L' = L ++ news)
    (hmax : L.length + news.length ≤ 4398046511104) (hbase : base ≤ w.heap.size)
    (h : ∀ v' w', OwnsR w' base e v' L' → w.grownBy w' v.ownBlock → (v'.ownBlock = v.ownBlock ∨ v'.ownBlock = some w.heap.size) → wpList P ops Q rest (a.put o.dst v') w') :
    wpList P ops Q (o :: rest) a w := by
  cases hq : P.info? e with
  | none => simp [hq] at hi
  | some i =>
    simp only [hq, Option.map_some, Option.some.injEq, Prod.mk.injEq] at hi
    obtain ⟨hz0, hsz, hby⟩ := hi
    have hL' : L32 L' := by
      rw [hn]; intro y hy
      rcases List.mem_append.1 hy with hy | hy
      · exact hown.1 y hy
      · exact hall y hy
    rcases hsrc with ⟨rfl, he, rfl⟩ | ⟨ad, rfl, hc⟩
    · have hnil : news = [] := by
        have := flatten_len hall
        have h0 : news.flatten.length = 0 := by rw [← c8_length, he]; rfl
        exact List.eq_nil_of_length_eq_zero (by omega)
      subst hnil
      obtain rfl : m = 0 := by simpa using hl.symm
      rw [List.append_nil] at hn
      subst hn
      exact wpList_append_own_none hgd s x t ho base e i 32 ht hq v L'.length (c8 L'.flatten) hs hown.2 hx (h v w hown (grownBy_refl _ _) (.inl rfl))
    · obtain ⟨z, hz⟩ : ∃ z, i.zero = some z := by
        cases hz : i.zero with
        | none => simp [hz] at hz0
        | some z => exact ⟨z, rfl⟩
      have hzs : z.cells.size = 32 := by simpa [hz] using hz0
      have hfl := flatten_len hall
      refine wpList_append_own_at w hgd s x t ho base e i z 32 32 ht hq hz hsz hby hzs (by decide) v L.length (c8 L.flatten) hs hown.2 ad m c (c8 news.flatten) hx (by rw [c8_length, hfl, hl]) hc (one8 _) (by unfold maxLen; omega) (by omega) hbase ?_
      intro v' w' h2 h3 _ h5
      refine h v' w' ⟨hL', ?_⟩ h3 h5
      have e1 : L'.length = L.length + m := by rw [hn]; simp; omega
      have e2 : c8 L'.flatten = c8 L.flatten ++ c8 news.flatten := by rw [hn]; simp [c8]
      rw [e1, e2]; exact h2
theorem Rows32.of_flat {w : World} {A : Option Addr} {n c : Nat} {b : List UInt8} (hn : b.length = n * 32) (hb : Bytes w A b) (hle : n ≤ c) (hnil : A = none → c = 0) : ∃ L, L.length = n ∧ L.flatten = b ∧ Rows32 w A c L := by
  have key : ∀ (n : Nat) (b : List UInt8), b.length = n * 32 → ∃ L : List (List UInt8), L.length = n ∧ L.flatten = b ∧ L32 L := by
    intro n
    induction n with
    | zero => intro b hb; exact ⟨[], rfl, by rw [List.eq_nil_of_length_eq_zero (by omega : b.length = 0)]; rfl, L32.nil⟩
    | succ n ih =>
      intro b hb
      obtain ⟨L, h1, h2, h3⟩ := ih (b.drop 32) (by simp; omega)
      refine ⟨b.take 32 :: L, by simp [h1], by rw [List.flatten_cons, h2, List.take_append_drop], ?_⟩
      intro x hx
      rcases List.mem_cons.1 hx with rfl | hx
      · simp; omega
      · exact h3 x hx
  obtain ⟨L, h1, h2, h3⟩ := key n b hn
  exact ⟨L, h1, h2, h3, by omega, hnil, by rw [h2]; exact hb⟩
end Go.Proofs.Ytpohjldhbaalbaa
