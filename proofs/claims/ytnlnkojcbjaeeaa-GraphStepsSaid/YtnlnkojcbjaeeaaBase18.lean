/- Words for memory (chapters 03 and 04's own, for a seat without sums): slices of bytes and of sums. -/
import Derived.Test.YtnlnkojcbjaeeaaOwn
import Derived.Test.YtnlnkojcbjaeeaaEq
import Derived.Test.YtnlnkojcbjaeeaaMix3
import Derived.Test.YtnlnkojcbjaeeaaDag
import Derived.Test.YtnlnkojcbjaeeaaChecked
import Derived.Laws.Tables
import Derived.Great.BuildSlice
namespace Go.Proofs.Ytnlnkojcbjaeeaa
set_option linter.unusedVariables false
set_option linter.unusedSimpArgs false
set_option linter.unusedSectionVars false
open Go.RowKit
set_option linter.unusedVariables false
def zd : List Value := c8 (List.replicate 32 0)
theorem alloc_d (W : World) : (Instr.alloc 30 true (.tuple #[])).run Try.prog W = .ok (.pointer (some ⟨W.heap.size, 0, none⟩)) (W.alloc (.cells zd.toArray 30)) := by kernel_rfl
theorem alloc_d32 (W : World) : (Instr.alloc 29 true (.tuple #[])).run Try.prog W = .ok (.pointer (some ⟨W.heap.size, 0, none⟩)) (W.alloc (.cells zd.toArray 29)) := by kernel_rfl

/-- v is a slice of the call's own that reads as the bytes l -/
def OwnsB (w : World) (base : Nat) (e : TypeId) (v : Value) (l : List UInt8) : Prop := w.ownsRow base e 1 v l.length (c8 l)
def bytesE (base : Nat) (e : TypeId) (v : Value) (l : List UInt8) : Ent := ⟨v.ownBlock, fun w => OwnsB w base e v l⟩
theorem bytesE_good (base : Nat) (e : TypeId) (v : Value) (l : List UInt8) : (bytesE base e v l).good := ownE_good base e v l.length (c8 l)
theorem Own.bytes {w0 w : World} {L : List Ent} {base : Nat} {e : TypeId} {v : Value} {l : List UInt8} (h : Own w0 w L) (i : Nat) (he : L[i]? = some (bytesE base e v l)) : OwnsB w base e v l := h.at_ i he
theorem Own.appendB {w0 w w' : World} {L : List Ent} {t : TypeId} {base : Nat} {v v' : Value} {xs xs' : List UInt8} (h : Own w0 w L) (i : Nat) (he : L[i]? = some (bytesE base t v xs)) (ho : OwnsB w' base t v' xs') (hg : w.grownBy w' v.ownBlock)
    (hb : v'.ownBlock = v.ownBlock ∨ v'.ownBlock = some w.heap.size) : Own w0 w' (L.set i (bytesE base t v' xs')) :=
  h.write i he (bytesE_good _ _ _ _) ho hg hb
theorem Own.built {w0 w : World} {L : List Ent} (h : Own w0 w L) (t : TypeId) (l : List UInt8) (hl : l.length ≤ 4096) :
    Own w0 (w.alloc (.cells (c8 l).toArray t)) (bytesE w0.heap.size t (.slice (some ⟨w.heap.size, 0, none⟩) l.length l.length) l :: L) := by
  refine h.newE (World.grownBy_alloc _ _ none) (bytesE_good _ _ _ _) ?_ (fun k hk => by cases hk; exact Nat.le_refl _)
  have hr : Row (w.alloc (.cells (c8 l).toArray t)) w.heap.size t (c8 l ++ []) := by rw [List.append_nil]; exact Row.new w t (c8 l)
  have := own_of_row hr w0.heap.size h.size (by simp [maxLen]; omega)
  show World.ownsRow _ _ _ _ _ _ _
  simpa using this
theorem Own.room {w0 w w' : World} {L : List Ent} (h : Own w0 w L) {t : TypeId} {c : Nat} {z : Value} (hr : Row w' w.heap.size t (List.replicate c z)) (hg : w.grownBy w' none) (hc : c ≤ 4096) :
    Own w0 w' (bytesE w0.heap.size t (.slice (some ⟨w.heap.size, 0, none⟩) 0 c) [] :: L) := by
  refine h.newE hg (bytesE_good _ _ _ _) ?_ (fun k hk => by cases hk; exact Nat.le_refl _)
  have := own_of_row (xs := []) (rest := List.replicate c z) (by simpa using hr) w0.heap.size h.size (by simp [maxLen]; omega)
  show World.ownsRow _ _ _ _ _ _ _
  simpa [c8] using this
/-- 'make([]byte, 0, c)': a slice of the call's own, without a look at where it lies -/
theorem wp_roomB {P : Program} {w0 w : World} {L : List Ent} {ops : Array Oper} {rest : List Oper} {o : Oper} {a : Act} {Q : Exit → Act → World → Prop} (hgd : o.guard = none) (t : TypeId) (x y : Operand) (ho : o.op = .makeSlice t x y)
    (e : TypeId) (ht : P.underlying t = some (.slice e)) (hi : (P.info? e).map (fun i => (i.zero, i.size, i.bytes)) = some (some (.int .u8 0), 1, 1))
    (c : Nat) (hx : a.eval x = .int .i64 0) (hy : a.eval y = .int .i64 (c : Int)) (hc : c ≤ 4096) (hS : Own w0 w L)
    (h : ∀ v w', Own w0 w' (bytesE w0.heap.size e v [] :: L) → wpList P ops Q rest (a.put o.dst v) w') : wpList P ops Q (o :: rest) a w :=
  wp_make hgd t x y ho e (.int .u8 0) 1 ht hi rfl 0 c hx hy (by omega) (by omega) (by omega) fun w' hr hg _ => h _ w' (hS.room hr hg hc)
theorem src_row {w : World} {g c : Nat} {t : TypeId} {cs : List Value} (h : Row w g t cs) : Src w (some ⟨g, 0, none⟩) c cs := .inr ⟨_, rfl, row_all h⟩
theorem src_own {w : World} {base : Nat} {e : TypeId} {A : Option Addr} {c n : Nat} {l : List UInt8} (h0 : OwnsB w base e (.slice A n c) l) : Src w A c (c8 l) := by
  obtain ⟨m, hm0⟩ : ∃ m, m = l.length := ⟨_, rfl⟩
  have h : w.ownsRow base e 1 (.slice A n c) m (c8 l) := hm0 ▸ h0
  clear h0
  have hm : l.length = m := by simpa using h.1
  rcases Nat.eq_zero_or_pos m with h0 | h0
  · have hl : l = [] := List.eq_nil_of_length_eq_zero (by omega)
    subst hl
    rcases h.2 with ⟨hv, _⟩ | ⟨g, cap, cur, hv, _⟩
    · injection hv with h1 h2 h3
      exact .inl ⟨h1, rfl, h3⟩
    · injection hv with h1 h2 h3
      exact .inr ⟨_, h1, fun j u hu => by simp [c8] at hu⟩
  · obtain ⟨g, cap, hv, _, _, _, _, hc⟩ := own_form h h0
    injection hv with h1 h2 h3
    exact .inr ⟨_, h1, fun j u hu => by rw [addr_add, Nat.zero_add]; exact hc j u hu⟩

/-- 'append' of bytes to a slice of the call's own -/
theorem wp_appB {P : Program} {w : World} {ops : Array Oper} {rest : List Oper} {o : Oper} {a : Act} {Q : Exit → Act → World → Prop} (hgd : o.guard = none) (s x : Operand) (t : TypeId)
    (ho : o.op = .call { callee := .builtin .append, args := #[s, x], argTypes := #[t, t] })
    (e : TypeId) (ht : P.underlying t = some (.slice e)) (hi : (P.info? e).map (fun i => (i.zero, i.size, i.bytes)) = some (some (.int .u8 0), 1, 1))
    {base : Nat} {v : Value} (l l' : List UInt8) (hs : a.eval s = v) (hown : OwnsB w base e v l)
    (A : Option Addr) (m c : Nat) (news : List UInt8) (hx : a.eval x = .slice A m c) (hsrc : Src w A c (c8 news)) (hl : news.length = m) (hn : l' = l ++ news)
    (hmax : l.length + news.length ≤ 140737488355328) (hbase : base ≤ w.heap.size)
    (h : ∀ v' w', OwnsB w' base e v' l' → w.grownBy w' v.ownBlock → (v'.ownBlock = v.ownBlock ∨ v'.ownBlock = some w.heap.size) → wpList P ops Q rest (a.put o.dst v') w') :
    wpList P ops Q (o :: rest) a w := by
  refine wp_append1 hgd s x t ho base e (.int .u8 0) 1 ht hi rfl v l.length (c8 l) hs hown A m c (c8 news) hx hsrc (by simpa using hl) (one8 _) (by unfold maxLen; omega) (by omega) hbase ?_
  intro v' w' h1 h2 h3
  refine h v' w' ?_ h2 h3
  have e1 : (l ++ news).length = l.length + m := by simp; omega
  unfold OwnsB
  rw [hn, e1, show c8 (l ++ news) = c8 l ++ c8 news from by simp [c8]]
  exact h1
/-- a slice of the call's own, opened: where it lies and what it reads as -/
theorem own_open {w : World} {base : Nat} {e : TypeId} {v : Value} {t : List UInt8} (h : OwnsB w base e v t) : ∃ A c, v = .slice A t.length c ∧ Bytes w A t ∧ t.length ≤ c ∧ c ≤ 9223372036854775807 := by
  obtain ⟨A, c, hv, hb, h1, h2⟩ := own_bytes h
  exact ⟨A, c, hv, fun h0 => by obtain ⟨b, hA, _, hc⟩ := hb h0; exact ⟨b, 0, hA, hc⟩, h1, by simpa [maxLen] using h2⟩
theorem Own.madeB {w0 w w' : World} {L : List Ent} {t : TypeId} {v : Value} {l : List UInt8} (h : Own w0 w L) (ho : OwnsB w' w.heap.size t v l) (hg : w.grownBy w' none) : Own w0 w' (bytesE w.heap.size t v l :: L) :=
  h.newE hg (bytesE_good _ _ _ _) ho (fun k hk => (World.ownsRow.lt ho k hk).1)
section
variable {P : Program}
theorem results_rowT {fn : Func} {p u : Tmp} {ty : TypeId} (h : fn.results = #[.cell p ty, .tmp u]) (tmps : Array Value) (w : World) (g : Nat) (t : TypeId) (cs : List Value) {d : TypeDesc} (hp : tmps.getD p undef = .pointer (some ⟨g, 0, none⟩))
    (hg : Row w g t cs) (hu : P.underlying ty = some d) (hd : (match d with | .struct _ | .array _ _ => true | _ => false) = true) (hi : (P.info? ty).map (·.size) = some cs.length) {v2 : Value} (hv : tmps.getD u undef = v2) :
    (results fn tmps).run P w = .ok (.tuple #[.agg cs.toArray, v2]) w := by
  subst hv
  have hp' : tmps[p]?.getD undef = .pointer (some ⟨g, 0, none⟩) := by simpa using hp
  simp [results, h, hp', asAddr, run_loadVar_row w g t ty cs.toArray (0, 0) d hg hu hd (by simpa using hi)]
end
theorem info_dg (l : List UInt8) (h : l.length = 32) : (Try.prog.info? 30).map (·.size) = some (c8 l).length := by rw [c8_length, h]; kernel_rfl
theorem info_a32 (l : List UInt8) (h : l.length = 32) : (Try.prog.info? 29).map (·.size) = some (c8 l).length := by rw [c8_length, h]; kernel_rfl
def zeros32 : List UInt8 := List.replicate 32 0
theorem zd_c8 : zd = c8 zeros32 := rfl

def L32 (L : List (List UInt8)) : Prop := ∀ x ∈ L, x.length = 32
theorem flatten_len : ∀ {L : List (List UInt8)}, L32 L → L.flatten.length = L.length * 32
  | [], _ => rfl
  | x :: r, h => by
    rw [List.flatten_cons, List.length_append, flatten_len (L := r) (fun y hy => h y (by simp [hy])), h x (by simp), List.length_cons]; omega
theorem flatten_take : ∀ {L : List (List UInt8)} (k : Nat), L32 L → (L.take k).flatten = L.flatten.take (k * 32)
  | [], k, _ => by simp
  | x :: r, 0, _ => by simp
  | x :: r, k + 1, h => by
    have hx := h x (by simp)
    rw [List.take_succ_cons, List.flatten_cons, List.flatten_cons, flatten_take k (fun y hy => h y (by simp [hy])), List.take_append, List.take_of_length_le (by omega : x.length ≤ (k + 1) * 32), hx, show (k + 1) * 32 - 32 = k * 32 by omega]
theorem flatten_drop : ∀ {L : List (List UInt8)} (k : Nat), L32 L → (L.drop k).flatten = L.flatten.drop (k * 32)
  | [], k, _ => by simp
  | x :: r, 0, _ => by simp
  | x :: r, k + 1, h => by
    have hx := h x (by simp)
    rw [List.drop_succ_cons, List.flatten_cons, flatten_drop k (fun y hy => h y (by simp [hy])), List.drop_append, List.drop_of_length_le (by omega : x.length ≤ (k + 1) * 32), hx, show (k + 1) * 32 - 32 = k * 32 by omega, List.nil_append]
theorem flatten_at {L : List (List UInt8)} (h : L32 L) (i : Nat) (hi : i < L.length) : (L.flatten.drop (i * 32)).take 32 = L.getD i [] := by
  rw [← flatten_drop i h]
  have e : L.drop i = L[i] :: L.drop (i + 1) := List.drop_eq_getElem_cons hi
  rw [e, List.flatten_cons, List.take_append_of_le_length (by rw [h _ (List.getElem_mem hi)]; exact Nat.le_refl _), List.take_of_length_le (by rw [h _ (List.getElem_mem hi)]; exact Nat.le_refl _)]
  simp [hi]
theorem L32.take {L : List (List UInt8)} (h : L32 L) (k : Nat) : L32 (L.take k) := fun x hx => h x (List.mem_of_mem_take hx)
theorem L32.drop {L : List (List UInt8)} (h : L32 L) (k : Nat) : L32 (L.drop k) := fun x hx => h x (List.mem_of_mem_drop hx)
theorem L32.at_ {L : List (List UInt8)} (h : L32 L) (i : Nat) (hi : i < L.length) : (L.getD i []).length = 32 := by
  have : L.getD i [] = L[i] := by simp [hi]
  rw [this]; exact h _ (List.getElem_mem hi)
theorem L32.snoc {L : List (List UInt8)} (h : L32 L) {x : List UInt8} (hx : x.length = 32) : L32 (L ++ [x]) := by
  intro y hy
  rcases List.mem_append.1 hy with hy | hy
  · exact h y hy
  · rw [List.mem_singleton.1 hy]; exact hx
theorem L32.nil : L32 [] := fun x hx => by cases hx

/-- '.slice A L.length c' reads as the list L -/
structure Rows32 (w : World) (A : Option Addr) (c : Nat) (L : List (List UInt8)) : Prop where
  all : L32 L
  le : L.length ≤ c
  nil : A = none → c = 0
  bytes : Bytes w A L.flatten
section
variable {w w' : World} {A : Option Addr} {c : Nat} {L : List (List UInt8)}
theorem Rows32.keep (h : Rows32 w A c L) (hg : w.grownBy w' none) : Rows32 w' A c L := ⟨h.all, h.le, h.nil, h.bytes.keep hg⟩
theorem Rows32.drew (h : Rows32 w A c L) : Rows32 w.drew A c L := ⟨h.all, h.le, h.nil, h.bytes⟩
theorem Rows32.none_ (w : World) : Rows32 w none 0 [] := ⟨L32.nil, by simp, fun _ => rfl, Bytes.nil _ _⟩
theorem Rows32.src (h : Rows32 w A c L) : Src w A c (c8 L.flatten) := by
  cases hA : A with
  | none =>
    have hc := h.nil hA
    have hl : L = [] := List.eq_nil_of_length_eq_zero (by have := h.le; omega)
    subst hl
    exact .inl ⟨rfl, rfl, hc⟩
  | some ad =>
    refine .inr ⟨ad, rfl, fun j u hu => ?_⟩
    have hj : j < L.flatten.length := by have := (List.getElem?_eq_some_iff.1 hu).1; simpa using this
    obtain ⟨b, off, hb, hc⟩ := h.bytes (by omega)
    rw [hA] at hb
    injection hb with hb
    subst hb
    rw [addr_add, hc j hj, ← c8_get _ j hj, hu]
/-- row i: where it lies, its cells -/
theorem Rows32.at_ (h : Rows32 w A c L) (i : Nat) (hi : i < L.length) : ∃ b off, A = some ⟨b, off, none⟩ ∧ ∀ j u, (c8 (L.getD i []))[j]? = some u → w.cell? ((⟨b, off + i * 32, none⟩ : Addr).add j) = some u := by
  have hfl := flatten_len h.all
  obtain ⟨b, off, hb, hc⟩ := h.bytes (by omega)
  refine ⟨b, off, hb, fun j u hu => ?_⟩
  have hj : j < 32 := by have := (List.getElem?_eq_some_iff.1 hu).1; rw [c8_length, h.all.at_ i hi] at this; exact this
  have hl : i * 32 + j < L.flatten.length := by rw [hfl]; omega
  rw [addr_add, Nat.add_assoc, hc _ hl, ← c8_get _ _ hl, ← hu, ← flatten_at h.all i hi]
  simp only [c8, List.map_take, List.map_drop, List.getElem?_take, if_pos hj, List.getElem?_drop]
theorem Rows32.take (h : Rows32 w A c L) (k : Nat) (hk : k ≤ L.length) : Rows32 w A c (L.take k) :=
  ⟨h.all.take k, by have := h.le; simp; omega, h.nil, by rw [flatten_take k h.all]; exact bytes_take32 h.bytes _⟩
  where
  bytes_take32 {w : World} {A : Option Addr} {p : List UInt8} (h : Bytes w A p) (k : Nat) : Bytes w A (p.take k) := by
    intro h0
    have hl : (p.take k).length ≤ p.length := by simp; omega
    obtain ⟨b, off, rfl, _, hc⟩ := h.at_ (by omega)
    refine ⟨b, off, rfl, fun j hj => ?_⟩
    rw [hc j (by omega)]
    have : j < k := by simp at hj; omega
    simp [List.getD_eq_getElem?_getD, List.getElem?_take, this]
theorem Rows32.drop (h : Rows32 w A c L) (k : Nat) (hk : k ≤ L.length) : Rows32 w (if c = k then A else A.map fun ad => ad.add (k * 32)) (c - k) (L.drop k) := by
  refine ⟨h.all.drop k, by have := h.le; simp; omega, ?_, ?_⟩
  · intro hn
    split at hn
    · omega
    · have : A = none := by cases A with
        | none => rfl
        | some a => simp at hn
      have := h.nil this
      omega
  · rw [flatten_drop k h.all]
    intro h0
    have hfl := flatten_len h.all
    have hk' : k * 32 < L.flatten.length := by rw [List.length_drop] at h0; omega
    rw [if_neg (by have := h.le; omega)]
    obtain ⟨b, off, rfl, _, hc⟩ := h.bytes.at_ (by omega)
    refine ⟨b, off + k * 32, by simp [addr_add], fun j hj => ?_⟩
    rw [Nat.add_assoc, hc (k * 32 + j) (by rw [List.length_drop] at hj; omega)]
    simp [List.getD_eq_getElem?_getD]
end
section
variable {P : Program}
/-- 's[:k]' -/
theorem run_to32 {t e : TypeId} (ht : P.underlying t = some (.slice e)) (hs : (P.info? e).map (·.size) = some 32) (A : Option Addr) (len cap k : Nat) (h2 : k ≤ cap) (W : World) :
    (Instr.slice t (.slice A len cap) none (some (.int .i64 (k : Int))) none).run P W = .ok (.slice A k cap) W := by
  have hel : P.elem t = e := by simp [Program.elem, ht]
  cases hq : P.info? e with
  | none => simp [hq] at hs
  | some i =>
    have hi : i.size = 32 := by simpa [hq] using hs
    rw [run_slice_h W t A len cap (by rw [hel]; exact ht) .i64 (k : Int) (by omega) (by omega)]
    have hce : P.cellsOf e = 32 := by simp [Program.cellsOf, hq, hi]
    rw [hel, run_sizeOf W hq, hce]
    have e0 : ∀ ad : Addr, ad.add 0 = ad := fun ad => by unfold Addr.add; split <;> simp_all
    simp [Result.andThen, sliced]
    intro _
    cases A <;> simp [e0]
/-- 's[k:]' -/
theorem run_from32 {t e : TypeId} (ht : P.underlying t = some (.slice e)) (hs : (P.info? e).map (·.size) = some 32) (A : Option Addr) (len cap k : Nat) (h1 : k ≤ len) (h2 : len ≤ cap) (W : World) :
    (Instr.slice t (.slice A len cap) (some (.int .i64 (k : Int))) none none).run P W = .ok (.slice (if cap = k then A else A.map fun ad => ad.add (k * 32)) (len - k) (cap - k)) W := by
  have hel : P.elem t = e := by simp [Program.elem, ht]
  cases hq : P.info? e with
  | none => simp [hq] at hs
  | some i =>
    have hi : i.size = 32 := by simpa [hq] using hs
    rw [run_slice_l W t A len cap (by rw [hel]; exact ht) .i64 (k : Int) (by omega) (by omega)]
    have hce : P.cellsOf e = 32 := by simp [Program.cellsOf, hq, hi]
    rw [hel, run_sizeOf W hq, hce]
    simp [Result.andThen, sliced]
end

/-! ### slices of the call's own -/
def OwnsR (w : World) (base : Nat) (e : TypeId) (v : Value) (L : List (List UInt8)) : Prop := L32 L ∧ w.ownsRow base e 32 v L.length (c8 L.flatten)
def rowsE (base : Nat) (e : TypeId) (v : Value) (L : List (List UInt8)) : Ent := ⟨v.ownBlock, fun w => OwnsR w base e v L⟩
theorem rowsE_good (base : Nat) (e : TypeId) (v : Value) (L : List (List UInt8)) : (rowsE base e v L).good :=
  ⟨fun _ _ _ h hg hr => ⟨h.1, World.ownsRow.kept h.2 hg hr⟩, fun _ h k hk => (World.ownsRow.lt h.2 k hk).2⟩
theorem Own.rows {w0 w : World} {L : List Ent} {base : Nat} {e : TypeId} {v : Value} {l : List (List UInt8)} (h : Own w0 w L) (i : Nat) (he : L[i]? = some (rowsE base e v l)) : OwnsR w base e v l := h.at_ i he
theorem Own.appendR {w0 w w' : World} {L : List Ent} {t : TypeId} {base : Nat} {v v' : Value} {xs xs' : List (List UInt8)} (h : Own w0 w L) (i : Nat) (he : L[i]? = some (rowsE base t v xs)) (ho : OwnsR w' base t v' xs') (hg : w.grownBy w' v.ownBlock)
    (hb : v'.ownBlock = v.ownBlock ∨ v'.ownBlock = some w.heap.size) : Own w0 w' (L.set i (rowsE base t v' xs')) :=
  h.write i he (rowsE_good _ _ _ _) ho hg hb
theorem Own.nilR {w0 w : World} {L : List Ent} (h : Own w0 w L) (base : Nat) (t : TypeId) : Own w0 w (rowsE base t (.slice none 0 0) [] :: L) :=
  h.newE (grownBy_refl _ _) (rowsE_good _ _ _ _) ⟨L32.nil, World.ownsRow_nil w base t 32⟩ (fun k hk => by cases hk)
theorem Own.madeR {w0 w w' : World} {L : List Ent} {t : TypeId} {v : Value} {l : List (List UInt8)} (h : Own w0 w L) (ho : OwnsR w' w.heap.size t v l) (hg : w.grownBy w' none) : Own w0 w' (rowsE w.heap.size t v l :: L) :=
  h.newE hg (rowsE_good _ _ _ _) ho (fun k hk => (World.ownsRow.lt ho.2 k hk).1)
theorem ownsR_open {w : World} {base : Nat} {e : TypeId} {v : Value} {L : List (List UInt8)} (h : OwnsR w base e v L) : ∃ A c, v = .slice A L.length c ∧ Rows32 w A c L ∧ c ≤ 9223372036854775807 := by
  obtain ⟨hall, hl, ho⟩ := h
  rcases ho with ⟨hv, hn⟩ | ⟨g, cap, cur, hv, hb, hg, hnc, hcm, hcs, ht⟩
  · have hL : L = [] := List.eq_nil_of_length_eq_zero hn
    subst hL
    exact ⟨none, 0, hv, Rows32.none_ w, by omega⟩
  · refine ⟨some ⟨g, 0, none⟩, cap, hv, ⟨hall, hnc, (fun h => by cases h), fun h0 => ⟨g, 0, rfl, fun j hj => ?_⟩⟩, by simpa [maxLen] using hcm⟩
    have h1 : (c8 L.flatten)[j]? = some (.int .u8 (n8 (L.flatten.getD j 0))) := c8_get _ j hj
    have hj2 : j < L.length * 32 := by rw [← flatten_len hall]; exact hj
    rw [← ht, List.getElem?_take, if_pos hj2] at h1
    rw [Nat.zero_add]
    simp [World.cell?, hg]
    simpa using h1
theorem OwnsR.mono {w : World} {base base' : Nat} {e : TypeId} {v : Value} {L : List (List UInt8)} (h : OwnsR w base e v L) (hb : base' ≤ base) : OwnsR w base' e v L := by
  obtain ⟨hall, hl, ho⟩ := h
  refine ⟨hall, hl, ?_⟩
  rcases ho with ho | ⟨g, cap, cur, hv, hb', x⟩
  · exact .inl ho
  · exact .inr ⟨g, cap, cur, hv, Nat.le_trans hb hb', x⟩
/-- 'append(s, x...)' of rows to a slice of the call's own -/
theorem wp_appR {P : Program} {w : World} {ops : Array Oper} {rest : List Oper} {o : Oper} {a : Act} {Q : Exit → Act → World → Prop} (hgd : o.guard = none) (s x : Operand) (t : TypeId)
    (ho : o.op = .call { callee := .builtin .append, args := #[s, x], argTypes := #[t, t] })
    (e : TypeId) (ht : P.underlying t = some (.slice e)) (hi : (P.info? e).map (fun i => (i.zero.map (fun z => z.cells.size), i.size, i.bytes)) = some (some 32, 32, 32))
    {base : Nat} {v : Value} (L L' : List (List UInt8)) (hs : a.eval s = v) (hown : OwnsR w base e v L)
    (A : Option Addr) (m c : Nat) (news : List (List UInt8)) (hx : a.eval x = .slice A m c) (hall : L32 news) (hsrc : Src w A c (c8 news.flatten)) (hl : news.length = m) (hn : L' = L ++ news)
    (hmax : L.length + news.length ≤ 4398046511104) (hbase : base ≤ w.heap.size)
    (h : ∀ v' w', OwnsR w' base e v' L' → w.grownBy w' v.ownBlock → (v'.ownBlock = v.ownBlock ∨ v'.ownBlock = some w.heap.size) → wpList P ops Q rest (a.put o.dst v') w') :
    wpList P ops Q (o :: rest) a w := by
  cases hq : P.info? e with
  | none => simp [hq] at hi
  | some i =>
    simp only [hq, Option.map_some, Option.some.injEq, Prod.mk.injEq] at hi
    obtain ⟨hz0, hsz, hby⟩ := hi
    have hL' : L32 L' := by
      rw [hn]; intro y hy
      rcases List.mem_append.1 hy with hy | hy
      · exact hown.1 y hy
      · exact hall y hy
    rcases hsrc with ⟨rfl, he, rfl⟩ | ⟨ad, rfl, hc⟩
    · have hnil : news = [] := by
        have := flatten_len hall
        have h0 : news.flatten.length = 0 := by rw [← c8_length, he]; rfl
        exact List.eq_nil_of_length_eq_zero (by omega)
      subst hnil
      obtain rfl : m = 0 := by simpa using hl.symm
      rw [List.append_nil] at hn
      subst hn
      exact wpList_append_own_none hgd s x t ho base e i 32 ht hq v L'.length (c8 L'.flatten) hs hown.2 hx (h v w hown (grownBy_refl _ _) (.inl rfl))
    · obtain ⟨z, hz⟩ : ∃ z, i.zero = some z := by
        cases hz : i.zero with
        | none => simp [hz] at hz0
        | some z => exact ⟨z, rfl⟩
      have hzs : z.cells.size = 32 := by simpa [hz] using hz0
      have hfl := flatten_len hall
      refine wpList_append_own_at w hgd s x t ho base e i z 32 32 ht hq hz hsz hby hzs (by decide) v L.length (c8 L.flatten) hs hown.2 ad m c (c8 news.flatten) hx (by rw [c8_length, hfl, hl]) hc (one8 _) (by unfold maxLen; omega) (by omega) hbase ?_
      intro v' w' h2 h3 _ h5
      refine h v' w' ⟨hL', ?_⟩ h3 h5
      have e1 : L'.length = L.length + m := by rw [hn]; simp; omega
      have e2 : c8 L'.flatten = c8 L.flatten ++ c8 news.flatten := by rw [hn]; simp [c8]
      rw [e1, e2]; exact h2
theorem Rows32.of_flat {w : World} {A : Option Addr} {n c : Nat} {b : List UInt8} (hn : b.length = n * 32) (hb : Bytes w A b) (hle : n ≤ c) (hnil : A = none → c = 0) : ∃ L, L.length = n ∧ L.flatten = b ∧ Rows32 w A c L := by
  have key : ∀ (n : Nat) (b : List UInt8), b.length = n * 32 → ∃ L : List (List UInt8), L.length = n ∧ L.flatten = b ∧ L32 L := by
    intro n
    induction n with
    | zero => intro b hb; exact ⟨[], rfl, by rw [List.eq_nil_of_length_eq_zero (by omega : b.length = 0)]; rfl, L32.nil⟩
    | succ n ih =>
      intro b hb
      obtain ⟨L, h1, h2, h3⟩ := ih (b.drop 32) (by simp; omega)
      refine ⟨b.take 32 :: L, by simp [h1], by rw [List.flatten_cons, h2, List.take_append_drop], ?_⟩
      intro x hx
      rcases List.mem_cons.1 hx with rfl | hx
      · simp; omega
      · exact h3 x hx
  obtain ⟨L, h1, h2, h3⟩ := key n b hn
  exact ⟨L, h1, h2, h3, by omega, hnil, by rw [h2]; exact hb⟩
theorem wp_built1 {P : Program} {w : World} {ops : Array Oper} {rest : List Oper} {o : Oper} {a : Act} {Q : Exit → Act → World → Prop} (hgd : o.guard = none) (t : TypeId) (x : Operand) (ho : o.op = .buildSlice t 1 #[(0, x)])
    (e : TypeId) (hu : P.underlying t = some (.slice e)) (s : Nat) (hi : (P.info? e).map (fun i => (i.zero.isSome, i.size)) = some (true, s)) (hs : 0 < s) (hs2 : s ≤ 4096) (cs : List Value) (hl : cs.length = s) (hx : a.eval x = .agg cs.toArray)
    (h : ∀ w', Row w' w.heap.size e cs → w.grownBy w' none → wpList P ops Q rest (a.put o.dst (.slice (some ⟨w.heap.size, 0, none⟩) 1 1)) w') : wpList P ops Q (o :: rest) a w := by
  cases hq : P.info? e with
  | none => simp [hq] at hi
  | some i =>
    simp only [hq, Option.map_some, Option.some.injEq, Prod.mk.injEq] at hi
    obtain ⟨z, hz⟩ := Option.isSome_iff_exists.1 hi.1
    have hc : (Value.agg cs.toArray).cells.size = s := by simp [Value.cells, hl]
    have hfill := Go.Great.fill_whole hs [.agg cs.toArray] ((Array.range (1 * s)).map (z.cells[· % z.cells.size]!)) (fun v hv => by rw [List.mem_singleton.1 hv]; exact hc) (by simp)
    have e1 : (([Value.agg cs.toArray] : List Value).flatMap fun v => v.cells.toList).toArray = cs.toArray := by simp [Value.cells]
    rw [e1] at hfill
    refine wpList_buildSlice hgd t e 1 #[(0, x)] ho cs.toArray i z hu hq hz (by rw [hi.2]; omega) (by rw [hi.2]; omega) (by rw [hi.2]; simpa [hx] using hfill) ?_
    exact h _ (Row.new w e cs) (World.grownBy_alloc _ _ none)
theorem info_rd : (Try.prog.info? 30).map (fun i => (i.zero.map (fun z => z.cells.size), i.size, i.bytes)) = some (some 32, 32, 32) := by kernel_rfl
theorem info_ra : (Try.prog.info? 29).map (fun i => (i.zero.map (fun z => z.cells.size), i.size, i.bytes)) = some (some 32, 32, 32) := by kernel_rfl
theorem info_zd : (Try.prog.info? 30).map (fun i => (i.zero.isSome, i.size)) = some (true, 32) := by kernel_rfl
theorem info_za : (Try.prog.info? 29).map (fun i => (i.zero.isSome, i.size)) = some (true, 32) := by kernel_rfl

section
variable {P : Program}
theorem wp_cell {w : World} {ops : Array Oper} {rest : List Oper} {o : Oper} {a : Act} {Q : Exit → Act → World → Prop} (hgd : Region.wanted o (yielded ops a.tmps) = true) (ty : TypeId) (x : Operand) (ho : o.op = .load ty x)
    {d : TypeDesc} (hu : P.underlying ty = some d) (hd : isAggD d = false) (ad : Addr) (hx : a.eval x = .pointer (some ad)) (v : Value) (hc : w.cell? ad = some v)
    (h : wpList P ops Q rest (a.put o.dst v) w) : wpList P ops Q (o :: rest) a w :=
  wp_val hgd _ (run_load_cell ty x ho hu hd ad hx v hc) h
theorem run_build_op {w : World} {o : Oper} {a : Act} (t : TypeId) (parts : Array (Nat × Operand)) (ho : o.op = .build t parts) (l : List (Nat × Value)) (hl : parts.toList.map (fun p => (p.1, a.eval p.2)) = l) (cs : Array Value)
    (hb : P.built t l = some cs) : (execOp a.eval o).run P w = .ok (.value (.agg cs)) w := by
  have hl' : (parts.map fun (i, x) => (i, a.eval x)).toList = l := by rw [Array.toList_map]; exact hl
  rw [← hl'] at hb
  simp only [execOp, ho, Sem.run_bind, run_build w t _ cs hb, Result.andThen_ok, Sem.run_pure]
theorem wp_built {w : World} {ops : Array Oper} {rest : List Oper} {o : Oper} {a : Act} {Q : Exit → Act → World → Prop} (hgd : Region.wanted o (yielded ops a.tmps) = true) (t : TypeId) (parts : Array (Nat × Operand)) (ho : o.op = .build t parts) (l : List (Nat × Value)) (hl : parts.toList.map (fun p => (p.1, a.eval p.2)) = l) (cs : Array Value)
    (hb : P.built t l = some cs) (h : wpList P ops Q rest (a.put o.dst (.agg cs)) w) : wpList P ops Q (o :: rest) a w :=
  wp_val hgd _ (run_build_op t parts ho l hl cs hb) h
end
theorem eq_dg (W : World) (a b : List UInt8) (ha : a.length = 32) (hb : b.length = 32) :
    (Op.equalIn 10000 30 (.agg (c8 a).toArray) (.agg (c8 b).toArray)).run Try.prog W = .ok (decide (a = b)) W :=
  run_eq8 W (D := 2) (k := 2) (n := 32) Try.underlying30 (by kernel_rfl) (by kernel_rfl)
    (reads8_array (n := 32) (c := 1) Try.underlying30 (by kernel_rfl) (by kernel_rfl) (reads8_u8 0 Try.underlying5)) a b ha hb 9998
theorem eq_a32 (W : World) (a b : List UInt8) (ha : a.length = 32) (hb : b.length = 32) :
    (Op.equalIn 10000 29 (.agg (c8 a).toArray) (.agg (c8 b).toArray)).run Try.prog W = .ok (decide (a = b)) W :=
  run_eq8 W (D := 2) (k := 2) (n := 32) Try.underlying29 (by kernel_rfl) (by kernel_rfl)
    (reads8_array (n := 32) (c := 1) Try.underlying29 (by kernel_rfl) (by kernel_rfl) (reads8_u8 0 Try.underlying5)) a b ha hb 9998
theorem built_d0 : Try.prog.built 30 [] = some (c8 zeros32).toArray := by kernel_rfl
theorem size_d : (Try.prog.info? 30).map (·.size) = some 32 := by kernel_rfl
theorem size_a : (Try.prog.info? 29).map (·.size) = some 32 := by kernel_rfl

section
variable {w0 w1 w2 w : World} {L1 L2 L : List Ent} {a b c d e : Ent}
theorem Own.join (h1 : Own w0 w1 L1) (h2 : Own w1 w2 L2) : Own w0 w2 (L2 ++ L1) := by
  refine ⟨grownBy_trans h1.grown h2.grown, fun x hx => ?_, List.pairwise_append.2 ⟨h2.apart, h1.apart, fun x hx y hy => ?_⟩⟩
  · rcases List.mem_append.1 hx with hx | hx
    · have := h2.good x hx
      exact ⟨this.1, this.2.1, fun k hk => Nat.le_trans h1.grown.size (this.2.2 k hk)⟩
    · exact (h1.call h2.grown).good x hx
  · cases hb : x.blk with
    | none => exact .inl rfl
    | some k =>
      refine .inr fun he => ?_
      have q1 := (h2.good x hx).2.2 k hb
      have q2 := (h1.good y hy).1.2 w1 (h1.good y hy).2.1 k he.symm
      omega
theorem Own.perm {L' : List Ent} (h : Own w0 w L) (hp : L.Perm L') : Own w0 w L' :=
  ⟨h.grown, fun x hx => h.good x (hp.mem_iff.2 hx), (hp.pairwise_iff (fun {x y} hxy => apart_symm x y hxy)).1 h.apart⟩
theorem Own.lower {base : Nat} {t : TypeId} {v : Value} {l : List (List UInt8)} (h : Own w0 w L) (i : Nat) (he : L[i]? = some (rowsE base t v l)) : Own w0 w (L.set i (rowsE w0.heap.size t v l)) := by
  refine h.turn he (rowsE_good _ _ _ _) ?_ rfl
  obtain ⟨hall, hl, ho⟩ := h.rows i he
  refine ⟨hall, hl, ?_⟩
  rcases ho with ho | ⟨g, cap, cur, hv, hb, x⟩
  · exact .inl ho
  · exact .inr ⟨g, cap, cur, hv, h.le i he (k := g) (by show v.ownBlock = some g; rw [hv]; rfl), x⟩
end
theorem ownsR_cut {w : World} {base n c k : Nat} {e : TypeId} {A : Option Addr} {L : List (List UInt8)} (h : OwnsR w base e (.slice A n c) L) (hk : k ≤ L.length) : OwnsR w base e (.slice A k c) (L.take k) := by
  obtain ⟨hall, hl, ho⟩ := h
  have hlt : (L.take k).length = k := by simp; omega
  refine ⟨hall.take k, by rw [hlt, c8_length, flatten_len (hall.take k), hlt], ?_⟩
  rcases ho with ⟨hv, hn⟩ | ⟨g, cap, cur, hv, hb, hg, hnc, hcm, hcs, ht⟩
  · injection hv with h1 h2 h3
    subst h1; subst h3
    exact .inl ⟨by rw [show k = 0 by omega], by omega⟩
  · injection hv with h1 h2 h3
    subst h1; subst h3
    refine .inr ⟨g, c, cur, by rw [hlt], hb, hg, by omega, hcm, hcs, ?_⟩
    rw [hlt, flatten_take k hall]
    have : cur.toList.take (k * 32) = (cur.toList.take (L.length * 32)).take (k * 32) := by rw [List.take_take, Nat.min_eq_left (Nat.mul_le_mul_right 32 hk)]
    rw [this, ht]; simp [c8]
theorem own_slice {w : World} {base n c : Nat} {e : TypeId} {A : Option Addr} {L : List (List UInt8)} (h : OwnsR w base e (.slice A n c) L) : n = L.length ∧ Rows32 w A c L ∧ c ≤ 9223372036854775807 := by
  obtain ⟨A', c', hv, h1, h2⟩ := ownsR_open h
  injection hv with e1 e2 e3
  subst e1; subst e3
  exact ⟨e2, h1, h2⟩

theorem ownsR_at {w : World} {base m : Nat} {e : TypeId} {v : Value} {L : List (List UInt8)} (h : OwnsR w base e v L) (hm : L.length = m) : ∃ A c, v = .slice A m c ∧ Rows32 w A c L ∧ c ≤ 9223372036854775807 := by
  subst hm; exact ownsR_open h

end Go.Proofs.Ytnlnkojcbjaeeaa
