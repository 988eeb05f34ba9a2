/- Slices of bytes of the call's own, in bytes: built, made, appended to. -/
import Derived.Test.YtpohjldhbaalbaaOwn
import Derived.Test.YtpohjldhbaalbaaDSum
import Derived.Test.YtpohjldhbaalbaaRSum2
namespace Go.Proofs.Ytpohjldhbaalbaa
set_option linter.unusedVariables false
set_option linter.unusedSimpArgs false
set_option linter.unusedSectionVars false
open Go.RowKit

/-- v is a slice of the call's own that reads as the bytes l -/
def OwnsB (w : World) (base : Nat) (e : TypeId) (v : Value) (l : List UInt8) : Prop := w.ownsRow base e 1 v l.length (c8 l)
def bytesE (base : Nat) (e : TypeId) (v : Value) (l : List UInt8) : Ent := ⟨v.ownBlock, fun w => OwnsB w base e v l⟩
theorem bytesE_good (base : Nat) (e : TypeId) (v : Value) (l : List UInt8) : (bytesE base e v l).good := ownE_good base e v l.length (c8 l)
theorem Own.bytes {w0 w : World} {L : List Ent} {base : Nat} {e : TypeId} {v : Value} {l : List UInt8} (h : Own w0 w L) (i : Nat) (he : L[i]? = some (bytesE base e v l)) : OwnsB w base e v l := h.at_ i he
theorem Own.appendB {w0 w w' : World} {L : List Ent} {t : TypeId} {base : Nat} {v v' : Value} {xs xs' : List UInt8} (h : Own w0 w L) (i : Nat) (he : L[i]? = some (bytesE base t v xs)) (ho : OwnsB w' base t v' xs') (hg : w.grownBy w' v.ownBlock)
    (hb : v'.ownBlock = v.ownBlock ∨ v'.ownBlock = some w.heap.size) : Own w0 w' (L.set i (bytesE base t v' xs')) :=
  h.write i he (bytesE_good _ _ _ _) ho hg hb
theorem Own.built {w0 w : World} {L : List Ent} (h : Own w0 w L) (t : TypeId) (l : List UInt8) (hl : l.length ≤ 4096) :
    Own w0 (w.alloc (.cells (c8 l).toArray t)) (bytesE w0.heap.size t (.slice (some ⟨w.heap.size, 0, none⟩) l.length l.length) l :: L) := by
  refine h.newE (World.grownBy_alloc _ _ none) (bytesE_good _ _ _ _) ?_ (fun k hk => by cases hk; exact Nat.le_refl _)
  have hr : Row (w.alloc (.cells (c8 l).toArray t)) w.heap.size t (c8 l ++ []) := by rw [List.append_nil]; exact Row.new w t (c8 l)
  have := own_of_row hr w0.heap.size h.size (by simp [maxLen]; omega)
  show World.ownsRow _ _ _ _ _ _ _
  simpa using this
theorem Own.room {w0 w w' : World} {L : List Ent} (h : Own w0 w L) {t : TypeId} {c : Nat} {z : Value} (hr : Row w' w.heap.size t (List.replicate c z)) (hg : w.grownBy w' none) (hc : c ≤ 4096) :
    Own w0 w' (bytesE w0.heap.size t (.slice (some ⟨w.heap.size, 0, none⟩) 0 c) [] :: L) := by
  refine h.newE hg (bytesE_good _ _ _ _) ?_ (fun k hk => by cases hk; exact Nat.le_refl _)
  have := own_of_row (xs := []) (rest := List.replicate c z) (by simpa using hr) w0.heap.size h.size (by simp [maxLen]; omega)
  show World.ownsRow _ _ _ _ _ _ _
  simpa [c8] using this
/-- 'make([]byte, 0, c)': a slice of the call's own, without a look at where it lies -/
theorem wp_roomB {P : Program} {w0 w : World} {L : List Ent} {ops : Array Oper} {rest : List Oper} {o : Oper} {a : Act} {Q : Exit → Act → World → Prop} (hgd : o.guard = none) (t : TypeId) (x y : Operand) (ho : o.op = .makeSlice t x y)
    (e : TypeId) (ht : P.underlying t = some (.slice e)) (hi : (P.info? e).map (fun i => (i.zero, i.size, i.bytes)) = some (some (.int .u8 0), 1, 1))
    (c : Nat) (hx : a.eval x = .int .i64 0) (hy : a.eval y = .int .i64 (c : Int)) (hc : c ≤ 4096) (hS : Own w0 w L)
    (h : ∀ v w', Own w0 w' (bytesE w0.heap.size e v [] :: L) → wpList P ops Q rest (a.put o.dst v) w') : wpList P ops Q (o :: rest) a w :=
  wp_make hgd t x y ho e (.int .u8 0) 1 ht hi rfl 0 c hx hy (by omega) (by omega) (by omega) fun w' hr hg _ => h _ w' (hS.room hr hg hc)
theorem src_row {w : World} {g c : Nat} {t : TypeId} {cs : List Value} (h : Row w g t cs) : Src w (some ⟨g, 0, none⟩) c cs := .inr ⟨_, rfl, row_all h⟩
theorem src_own {w : World} {base : Nat} {e : TypeId} {A : Option Addr} {c n : Nat} {l : List UInt8} (h0 : OwnsB w base e (.slice A n c) l) : Src w A c (c8 l) := by
  obtain ⟨m, hm0⟩ : ∃ m, m = l.length := ⟨_, rfl⟩
  have h : w.ownsRow base e 1 (.slice A n c) m (c8 l) := hm0 ▸ h0
  clear h0
  have hm : l.length = m := by simpa using h.1
  rcases Nat.eq_zero_or_pos m with h0 | h0
  · have hl : l = [] := List.eq_nil_of_length_eq_zero (by omega)
    subst hl
    rcases h.2 with ⟨hv, _⟩ | ⟨g, cap, cur, hv, _⟩
    · injection hv with h1 h2 h3
      exact .inl ⟨h1, rfl, h3⟩
    · injection hv with h1 h2 h3
      exact .inr ⟨_, h1, fun j u hu => by simp [c8] at hu⟩
  · obtain ⟨g, cap, hv, _, _, _, _, hc⟩ := own_form h h0
    injection hv with h1 h2 h3
    exact .inr ⟨_, h1, fun j u hu => by rw [addr_add, Nat.zero_add]; exact hc j u hu⟩

/-- 'append' of bytes to a slice of the call's own -/
theorem wp_appB {P : Program} {w : World} {ops : Array Oper} {rest : List Oper} {o : Oper} {a : Act} {Q : Exit → Act → World → Prop} (hgd : o.guard = none) (s x : Operand) (t : TypeId)
    (ho : o.op = .call { callee := .builtin .append, args := #[s, x], argTypes := #[t, t] })
    (e : TypeId) (ht : P.underlying t = some (.slice e)) (hi : (P.info? e).map (fun i => (i.zero, i.size, i.bytes)) = some (some (.int .u8 0), 1, 1))
    {base : Nat} {v : Value} (l l' : List UInt8) (hs : a.eval s = v) (hown : OwnsB w base e v l)
    (A : Option Addr) (m c : Nat) (news : List UInt8) (hx : a.eval x = .slice A m c) (hsrc : Src w A c (c8 news)) (hl : news.length = m) (hn : l' = l ++ news)
    (hmax : l.length + news.length ≤ 140737488355328) (hbase : base ≤ w.heap.size)
    (h : ∀ v' w', OwnsB w' base e v' l' → w.grownBy w' v.ownBlock → (v'.ownBlock = v.ownBlock ∨ v'.ownBlock = some w.heap.size) → wpList P ops Q rest (a.put o.dst v') w') :
    wpList P ops Q (o :: rest) a w := by
  refine wp_append1 hgd s x t ho base e (.int .u8 0) 1 ht hi rfl v l.length (c8 l) hs hown A m c (c8 news) hx hsrc (by simpa using hl) (one8 _) (by unfold maxLen; omega) (by omega) hbase ?_
  intro v' w' h1 h2 h3
  refine h v' w' ?_ h2 h3
  have e1 : (l ++ news).length = l.length + m := by simp; omega
  unfold OwnsB
  rw [hn, e1, show c8 (l ++ news) = c8 l ++ c8 news from by simp [c8]]
  exact h1
/-- a slice of the call's own, opened: where it lies and what it reads as -/
theorem own_open {w : World} {base : Nat} {e : TypeId} {v : Value} {t : List UInt8} (h : OwnsB w base e v t) : ∃ A c, v = .slice A t.length c ∧ Bytes w A t ∧ t.length ≤ c ∧ c ≤ 9223372036854775807 := by
  obtain ⟨A, c, hv, hb, h1, h2⟩ := own_bytes h
  exact ⟨A, c, hv, fun h0 => by obtain ⟨b, hA, _, hc⟩ := hb h0; exact ⟨b, 0, hA, hc⟩, h1, by simpa [maxLen] using h2⟩
theorem Own.madeB {w0 w w' : World} {L : List Ent} {t : TypeId} {v : Value} {l : List UInt8} (h : Own w0 w L) (ho : OwnsB w' w.heap.size t v l) (hg : w.grownBy w' none) : Own w0 w' (bytesE w.heap.size t v l :: L) :=
  h.newE hg (bytesE_good _ _ _ _) ho (fun k hk => (World.ownsRow.lt ho k hk).1)
theorem rput_b (m : Nat) (x : Int) (w : World) (hx : x = (m : Int)) (hm : m < 18446744073709551616) :
    Calls Try.prog 69 #[.int .u64 x, .int .i64 4] w fun e w' => ∃ A c, e = .returned (.slice A 4 c) ∧ OwnsB w' w.heap.size 5 (.slice A 4 c) (beBytes m 4) ∧ w.grownBy w' none := by
  refine (rput_any x 4 m 4 w hx rfl (by omega) (by omega) hm).mono ?_
  rintro e w' ⟨v, rfl, ho, hg⟩
  have ho' : OwnsB w' w.heap.size 5 v (beBytes m 4) := by unfold OwnsB; rw [beBytes_length]; exact ho
  obtain ⟨A, c, rfl, _⟩ := own_open ho'
  rw [beBytes_length] at ho' ⊢
  exact ⟨A, c, rfl, ho', hg⟩
section
variable {P : Program}
theorem results_rowT {fn : Func} {p u : Tmp} {ty : TypeId} (h : fn.results = #[.cell p ty, .tmp u]) (tmps : Array Value) (w : World) (g : Nat) (t : TypeId) (cs : List Value) {d : TypeDesc} (hp : tmps.getD p undef = .pointer (some ⟨g, 0, none⟩))
    (hg : Row w g t cs) (hu : P.underlying ty = some d) (hd : (match d with | .struct _ | .array _ _ => true | _ => false) = true) (hi : (P.info? ty).map (·.size) = some cs.length) {v2 : Value} (hv : tmps.getD u undef = v2) :
    (results fn tmps).run P w = .ok (.tuple #[.agg cs.toArray, v2]) w := by
  subst hv
  have hp' : tmps[p]?.getD undef = .pointer (some ⟨g, 0, none⟩) := by simpa using hp
  simp [results, h, hp', asAddr, run_loadVar_row w g t ty cs.toArray (0, 0) d hg hu hd (by simpa using hi)]
end
theorem info_dg (l : List UInt8) (h : l.length = 32) : (Try.prog.info? 27).map (·.size) = some (c8 l).length := by rw [c8_length, h]; kernel_rfl
theorem info_a32 (l : List UInt8) (h : l.length = 32) : (Try.prog.info? 26).map (·.size) = some (c8 l).length := by rw [c8_length, h]; kernel_rfl
def zeros32 : List UInt8 := List.replicate 32 0
theorem zd_c8 : zd = c8 zeros32 := rfl
end Go.Proofs.Ytpohjldhbaalbaa
