/- A queue of sums: a slice of the call's own that is cut at its front and appended to. -/
import Derived.Test.YtnlnkojcbjaeeaaBase18
import Derived.Maps.AppendAt
namespace Go.Proofs.Ytnlnkojcbjaeeaa
set_option linter.unusedVariables false
set_option linter.unusedSimpArgs false
set_option linter.unusedSectionVars false
open Go.RowKit
set_option linter.unusedVariables false

def OwnsQ (w : World) (base : Nat) (e : TypeId) (v : Value) (L : List (List UInt8)) : Prop :=
  L32 L ∧ ((v = .slice none 0 0 ∧ L = []) ∨ ∃ g o cap cur, v = .slice (some ⟨g, o * 32, none⟩) L.length cap ∧ base ≤ g ∧ w.heap[g]? = some (.cells cur e (0, 0)) ∧ L.length ≤ cap ∧ cap ≤ maxLen ∧ (o + cap) * 32 ≤ cur.size ∧
    (cur.toList.drop (o * 32)).take (L.length * 32) = c8 L.flatten)
def queueE (base : Nat) (e : TypeId) (v : Value) (L : List (List UInt8)) : Ent := ⟨v.ownBlock, fun w => OwnsQ w base e v L⟩
theorem OwnsQ.kept {w w' : World} {base : Nat} {e : TypeId} {v : Value} {L : List (List UInt8)} {row : Option Nat} (h : OwnsQ w base e v L) (hg : w.grownBy w' row) (hr : v.ownBlock = none ∨ v.ownBlock ≠ row) : OwnsQ w' base e v L := by
  refine ⟨h.1, ?_⟩
  rcases h.2 with h1 | ⟨g, o, cap, cur, hv, hb, hh, rest⟩
  · exact .inl h1
  · refine .inr ⟨g, o, cap, cur, hv, hb, (hg.block g (Array.getElem?_eq_some_iff.1 hh).1 ?_).trans hh, rest⟩
    rcases hr with hr | hr
    · rw [hv] at hr; cases hr
    · rw [hv] at hr; exact hr
theorem OwnsQ.lt {w : World} {base : Nat} {e : TypeId} {v : Value} {L : List (List UInt8)} (h : OwnsQ w base e v L) (k : Nat) (hk : v.ownBlock = some k) : base ≤ k ∧ k < w.heap.size := by
  rcases h.2 with ⟨hv, _⟩ | ⟨g, o, cap, cur, hv, hb, hh, _⟩
  · rw [hv] at hk; cases hk
  · rw [hv] at hk
    cases hk
    exact ⟨hb, (Array.getElem?_eq_some_iff.1 hh).1⟩
theorem queueE_good (base : Nat) (e : TypeId) (v : Value) (L : List (List UInt8)) : (queueE base e v L).good :=
  ⟨fun _ _ _ h hg hr => h.kept hg hr, fun _ h k hk => (h.lt k hk).2⟩
theorem Own.queue {w0 w : World} {L : List Ent} {base : Nat} {e : TypeId} {v : Value} {l : List (List UInt8)} (h : Own w0 w L) (i : Nat) (he : L[i]? = some (queueE base e v l)) : OwnsQ w base e v l := h.at_ i he
theorem OwnsR.queue {w : World} {base : Nat} {e : TypeId} {v : Value} {L : List (List UInt8)} (h : OwnsR w base e v L) : OwnsQ w base e v L := by
  obtain ⟨hall, hl, ho⟩ := h
  refine ⟨hall, ?_⟩
  rcases ho with ⟨hv, hn⟩ | ⟨g, cap, cur, hv, hb, hg, hnc, hcm, hcs, ht⟩
  · exact .inl ⟨hv, List.eq_nil_of_length_eq_zero hn⟩
  · exact .inr ⟨g, 0, cap, cur, by rw [hv, Nat.zero_mul], hb, hg, hnc, hcm, by omega, by rw [Nat.zero_mul, List.drop_zero]; exact ht⟩
theorem OwnsQ.open_ {w : World} {base : Nat} {e : TypeId} {v : Value} {L : List (List UInt8)} (h : OwnsQ w base e v L) : ∃ A c, v = .slice A L.length c ∧ Rows32 w A c L ∧ c ≤ 9223372036854775807 := by
  obtain ⟨hall, ho⟩ := h
  rcases ho with ⟨hv, hn⟩ | ⟨g, o, cap, cur, hv, hb, hg, hnc, hcm, hcs, ht⟩
  · subst hn
    exact ⟨none, 0, hv, Rows32.none_ w, by omega⟩
  · refine ⟨some ⟨g, o * 32, none⟩, cap, hv, ⟨hall, hnc, (fun h => by cases h), fun h0 => ⟨g, o * 32, rfl, fun j hj => ?_⟩⟩, by simpa [maxLen] using hcm⟩
    have h1 : (c8 L.flatten)[j]? = some (.int .u8 (n8 (L.flatten.getD j 0))) := c8_get _ j hj
    have hj2 : j < L.length * 32 := by rw [← flatten_len hall]; exact hj
    rw [← ht, List.getElem?_take, if_pos hj2, List.getElem?_drop] at h1
    simp [World.cell?, hg]
    simpa using h1
theorem OwnsQ.tail {w : World} {base n c : Nat} {e : TypeId} {A : Option Addr} {x : List UInt8} {L : List (List UInt8)} (h : OwnsQ w base e (.slice A n c) (x :: L)) :
    OwnsQ w base e (.slice (if c = 1 then A else A.map fun ad => ad.add (1 * 32)) (n - 1) (c - 1)) L ∧ (Value.slice (if c = 1 then A else A.map fun ad => ad.add (1 * 32)) (n - 1) (c - 1)).ownBlock = (Value.slice A n c).ownBlock := by
  obtain ⟨hall, ho⟩ := h
  have hx := hall x (by simp)
  have hL : L32 L := fun y hy => hall y (by simp [hy])
  rcases ho with ⟨hv, hn⟩ | ⟨g, o, cap, cur, hv, hb, hg, hnc, hcm, hcs, ht⟩
  · cases hn
  · injection hv with h1 h2 h3
    subst h1; subst h3
    simp only [List.length_cons] at h2 hnc ht
    have hfl : c8 (x :: L).flatten = c8 x ++ c8 L.flatten := by simp [c8]
    have htail : (cur.toList.drop (o * 32 + 32)).take (L.length * 32) = c8 L.flatten := by
      have e1 : (cur.toList.drop (o * 32 + 32)).take (L.length * 32) = ((cur.toList.drop (o * 32)).take ((L.length + 1) * 32)).drop 32 := by
        rw [List.drop_take, List.drop_drop]
        congr 1
        omega
      rw [e1, ht, hfl, List.drop_append, List.drop_of_length_le (by rw [c8_length, hx]; exact Nat.le_refl _), c8_length, hx]
      simp
    by_cases hc : c = 1
    · subst hc
      have hl0 : L = [] := List.eq_nil_of_length_eq_zero (by omega)
      subst hl0
      rw [if_pos rfl]
      refine ⟨⟨hL, .inr ⟨g, o, 0, cur, by rw [h2]; rfl, hb, hg, Nat.le_refl _, by simp [maxLen], by omega, by simp [c8]⟩⟩, rfl⟩
    · rw [if_neg hc]
      refine ⟨⟨hL, .inr ⟨g, o + 1, c - 1, cur, ?_, hb, hg, by omega, by omega, ?_, ?_⟩⟩, ?_⟩
      · rw [h2, show L.length + 1 - 1 = L.length by omega]
        simp only [Option.map_some, addr_add, Nat.one_mul, show (o + 1) * 32 = o * 32 + 32 by omega]
      · have : o + 1 + (c - 1) = o + c := by omega
        rw [this]; exact hcs
      · rw [show (o + 1) * 32 = o * 32 + 32 by omega]; exact htail
      · simp only [Option.map_some, addr_add]; rfl

section
variable {P : Program} {w : World}
theorem run_append_room_off (t ty e : TypeId) (i : TypeInfo) (ht : P.underlying t = some (.slice e)) (hi : P.info? e = some i)
    (g off sLen sCap : Nat) (cur : Array Value) (hg : w.heap[g]? = some (.cells cur e (0, 0)))
    (a : Addr) (m c : Nat) (news : List Value) (hl : news.length = m * i.size) (hnews : ∀ j u, news[j]? = some u → w.cell? (a.add j) = some u) (h1 : ∀ u ∈ news, u.oneCell' = true)
    (hroom : sLen + m ≤ sCap) (hfit : off + sLen * i.size + news.length ≤ cur.size) :
    (Builtin.append_ #[t, t] ty #[.slice (some ⟨g, off, none⟩) sLen sCap, .slice (some a) m c]).run P w =
      .ok (.slice (some ⟨g, off, none⟩) (sLen + m) sCap) (w.setRow g (splice cur.toList (off + sLen * i.size) news).toArray) := by
  have hf := run_firstCells_some (P := P) w i.size m a m c news hl hnews
  have hst := run_storeCells_at P g (off + sLen * i.size) e news 0 cur w hg (by simpa using hfit) h1
  simp only [Nat.add_zero] at hst
  simp [Builtin.append_, run_underlying ht, sizeOf, typeInfo, hi, Builtin.lenOf, hroom, hf, addr_add, hst, splice]
/-- 'append(q, x...)' -/
theorem wp_appQ {ops : Array Oper} {rest : List Oper} {o : Oper} {a : Act} {Q : Exit → Act → World → Prop} (hgd : o.guard = none) (s x : Operand) (t : TypeId)
    (ho : o.op = .call { callee := .builtin .append, args := #[s, x], argTypes := #[t, t] })
    (e : TypeId) (ht : P.underlying t = some (.slice e)) (hi : (P.info? e).map (fun i => (i.zero.map (fun z => z.cells.size), i.size, i.bytes)) = some (some 32, 32, 32))
    {base : Nat} {v : Value} (L L' : List (List UInt8)) (hs : a.eval s = v) (hown : OwnsQ w base e v L)
    (ad : Addr) (m c : Nat) (news : List (List UInt8)) (hx : a.eval x = .slice (some ad) m c) (hall : L32 news) (hc : ∀ j u, (c8 news.flatten)[j]? = some u → w.cell? (ad.add j) = some u) (hl : news.length = m) (hn : L' = L ++ news)
    (hmax : L.length + news.length ≤ 4398046511104) (hbase : base ≤ w.heap.size)
    (h : ∀ v' w', OwnsQ w' base e v' L' → w.grownBy w' v.ownBlock → (v'.ownBlock = v.ownBlock ∨ v'.ownBlock = some w.heap.size) → wpList P ops Q rest (a.put o.dst v') w') :
    wpList P ops Q (o :: rest) a w := by
  cases hq : P.info? e with
  | none => simp [hq] at hi
  | some i =>
    simp only [hq, Option.map_some, Option.some.injEq, Prod.mk.injEq] at hi
    obtain ⟨hz0, hsz, hby⟩ := hi
    obtain ⟨z, hz⟩ : ∃ z, i.zero = some z := by
      cases hz : i.zero with
      | none => simp [hz] at hz0
      | some z => exact ⟨z, rfl⟩
    have hzs : z.cells.size = 32 := by simpa [hz] using hz0
    have hfl := flatten_len hall
    have hL' : L32 L' := by
      rw [hn]; intro y hy
      rcases List.mem_append.1 hy with hy | hy
      · exact hown.1 y hy
      · exact hall y hy
    have hfL := flatten_len hown.1
    have key : ∃ v' w', (Builtin.append_ #[t, t] o.type #[v, .slice (some ad) m c]).run P w = .ok v' w' ∧ OwnsQ w' base e v' L' ∧ w.grownBy w' v.ownBlock ∧ (v'.ownBlock = v.ownBlock ∨ v'.ownBlock = some w.heap.size) := by
      rcases hown.2 with ⟨hv, hn0⟩ | ⟨g, o', cap, cur, hv, hb, hg, hnc, hcm, hcs, ht'⟩
      · subst hn0
        have hR : OwnsR w base e v [] := ⟨L32.nil, by rw [hv]; exact World.ownsRow_nil w base e 32⟩
        obtain ⟨v', w', h1, h2, h3, _, h5⟩ := Go.run_append_own_at (P := P) w base t o.type e i z 32 32 ht hq hz hsz hby hzs (by decide) v 0 (c8 ([] : List (List UInt8)).flatten) hR.2 ad m c (c8 news.flatten) (by rw [c8_length, hfl, hl]) hc (one8 _) (by unfold maxLen; simp at hmax; omega) (by simp at hmax; omega) hbase
        refine ⟨v', w', h1, OwnsR.queue ⟨hL', ?_⟩, h3, h5⟩
        have e1 : L'.length = 0 + m := by rw [hn]; simp; omega
        have e2 : c8 L'.flatten = c8 ([] : List (List UInt8)).flatten ++ c8 news.flatten := by rw [hn]; simp [c8]
        rw [e1, e2]; exact h2
      · subst hv
        by_cases hroom : L.length + m ≤ cap
        · have hfit : o' * 32 + L.length * i.size + (c8 news.flatten).length ≤ cur.size := by rw [hsz, c8_length, hfl, hl]; omega
          have hr := run_append_room_off (P := P) (w := w) t o.type e i ht hq g (o' * 32) L.length cap cur hg ad m c (c8 news.flatten) (by rw [c8_length, hfl, hl, hsz]) hc (one8 _) hroom hfit
          rw [hsz] at hr
          refine ⟨_, _, hr, ⟨hL', .inr ⟨g, o', cap, _, ?_, hb, setRow_heap w g cur _ e _ hg, ?_, hcm, ?_, ?_⟩⟩, ⟨rfl, rfl, rfl, by simp [World.setRow], fun k _ hk => setRow_other w g k _ (fun e => hk (by simp [Value.ownBlock, e]))⟩, .inl rfl⟩
          · rw [hn]; simp [hl]
          · rw [hn]; simp; omega
          · have hsl : (splice cur.toList (o' * 32 + L.length * 32) (c8 news.flatten)).length = cur.size := by
              rw [hsz] at hfit
              simp only [splice, List.length_append, List.length_take, List.length_drop, Array.length_toList]; omega
            rw [List.size_toArray, hsl]; exact hcs
          · have hcl : cur.toList.length = cur.size := by simp
            have hln : L'.length * 32 = L.length * 32 + (c8 news.flatten).length := by rw [hn, c8_length, hfl, List.length_append]; omega
            rw [hsz] at hfit
            have hA : (cur.toList.take (o' * 32 + L.length * 32)).length = o' * 32 + L.length * 32 := by rw [List.length_take, hcl]; omega
            have hB : (cur.toList.take (o' * 32 + L.length * 32)).drop (o' * 32) = c8 L.flatten := by
              rw [List.drop_take, show o' * 32 + L.length * 32 - o' * 32 = L.length * 32 by omega]; exact ht'
            have e3 : c8 L'.flatten = c8 L.flatten ++ c8 news.flatten := by rw [hn]; simp [c8]
            rw [e3, hln]
            show List.take _ (List.drop _ (splice _ _ _)) = _
            unfold splice
            rw [List.drop_append, hB, hA, show o' * 32 - (o' * 32 + L.length * 32) = 0 by omega, List.drop_zero, ← List.append_assoc]
            have hl3 : (c8 L.flatten ++ c8 news.flatten).length = L.length * 32 + (c8 news.flatten).length := by rw [List.length_append, c8_length, hfL]
            rw [← hl3, List.take_left]
        · obtain ⟨A2, c2, hv2, hR2, _⟩ := hown.open_
          injection hv2 with a1 a2 a3
          subst a1; subst a3
          have hsrc := hR2.src
          have holds : ∀ j u, (c8 L.flatten)[j]? = some u → w.cell? ((⟨g, o' * 32, none⟩ : Addr).add j) = some u := by
            rcases hsrc with ⟨h0, _⟩ | ⟨ad2, h0, hh⟩
            · cases h0
            · injection h0 with h0; subst h0; exact hh
          have hbytes : (L.length + m) * i.bytes ≤ 140737488355328 := by rw [hby]; omega
          have hr := run_append_grow (P := P) (w := w) t o.type e i z ht hq hz ⟨g, o' * 32, none⟩ L.length cap (c8 L.flatten) (by rw [c8_length, hfL, hsz]) holds ad m c (c8 news.flatten) (by rw [c8_length, hfl, hl, hsz]) hc (by omega) (by omega) (growslice_fits (by omega) hbytes)
          have hge := grownCap_ge w (L.length + m) cap e
          have hcm2 : grownCap w (L.length + m) cap e ≤ maxLen := grownCap_le_maxLen w (L.length + m) cap e (by unfold maxLen; omega)
          refine ⟨_, _, hr, ⟨hL', .inr ⟨w.heap.size, 0, _, _, ?_, hbase, heap_alloc_new w.drew _, ?_, hcm2, ?_, ?_⟩⟩, ⟨rfl, rfl, rfl, by simp, fun k hk _ => heap_alloc_old w.drew _ hk⟩, .inr rfl⟩
          · rw [hn, Nat.zero_mul]; simp [hl]
          · rw [hn]; simp; omega
          · have h1 : (c8 L.flatten).length = L.length * 32 := by rw [c8_length, hfL]
            have h2 : (c8 news.flatten).length = m * 32 := by rw [c8_length, hfl, hl]
            simp only [Array.size_append, List.size_toArray, size_zeroCells, hzs, h1, h2]
            omega
          · have e3 : c8 L'.flatten = c8 L.flatten ++ c8 news.flatten := by rw [hn]; simp [c8]
            have hln : L'.length * 32 = (c8 L.flatten ++ c8 news.flatten).length := by rw [hn, List.length_append, List.length_append, c8_length, c8_length, hfl, hfL]; omega
            rw [e3, hln, Nat.zero_mul, List.drop_zero]
            simp only [Array.toList_append, List.append_assoc]
            rw [← List.append_assoc]
            exact List.take_left
    obtain ⟨v', w', hr, h1, h2, h3⟩ := key
    refine wpList_plain hgd fun K hK => ?_
    unfold Oper.wp execOp
    simp only [ho, resolve, invoke, builtin, Sem.run_bind, Sem.run_pure, Result.andThen_ok, List.map_toArray, List.map_cons, List.map_nil, hs, hx, hr]
    exact hK _ _ (h v' w' h1 h2 h3)
end
end Go.Proofs.Ytnlnkojcbjaeeaa
