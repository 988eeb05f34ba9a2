/- Maps keyed by sums: a map's block as a list of keys and values; looked up, put, deleted. -/
import Derived.Test.YtnlnkojcbjaeeaaBase18
import Derived.Maps.RangeRun
import Derived.Maps.OwnOps
import Derived.Maps.OwnSet
import Derived.DeepKeys4
import Derived.Carry
namespace Go.Proofs.Ytnlnkojcbjaeeaa
set_option linter.unusedVariables false
set_option linter.unusedSimpArgs false
set_option linter.unusedSectionVars false
open Go.RowKit
open Go.ChangeMaps (setBlock modify_eq_set)
open Go.MapKept (Stamped stamped_push stamped_modify stamped_erase stamped_empty)
open Go.Maps (Keyed)
set_option linter.unusedVariables false
set_option linter.unusedSectionVars false

abbrev Dg := List UInt8
def dgv (k : Dg) : Value := .agg (c8 k).toArray
theorem c8_inj : ∀ {a b : List UInt8}, c8 a = c8 b → a = b := by
  intro a
  induction a with
  | nil => intro b h; cases b with
    | nil => rfl
    | cons y r => simp [c8] at h
  | cons x r ih => intro b h; cases b with
    | nil => simp [c8] at h
    | cons y s =>
      simp only [c8, List.map_cons, List.cons.injEq] at h
      obtain ⟨h1, h2⟩ := h
      have hx : x = y := by
        unfold v8 at h1
        injection h1 with _ h1
        exact n8_inj h1
      rw [hx, ih h2]
theorem dgv_inj {a b : Dg} (h : dgv a = dgv b) : a = b := by
  unfold dgv at h
  injection h with h
  exact c8_inj (by simpa using congrArg Array.toList h)
abbrev KV := List (Dg × Value)
def lookKV (kv : KV) (k : Dg) : Option Value := (kv.find? (fun p => p.1 == k)).map (·.2)
def hasKV (kv : KV) (k : Dg) : Bool := kv.any (fun p => p.1 == k)
def putKV (kv : KV) (k : Dg) (v : Value) : KV := if hasKV kv k then kv.map (fun p => if p.1 = k then (k, v) else p) else kv ++ [(k, v)]
def delKV (kv : KV) (k : Dg) : KV := kv.filter (fun p => p.1 != k)
def entOf (e : MapEntry) : Value × Value := (e.key, e.val)
def kvOf (p : Dg × Value) : Value × Value := (dgv p.1, p.2)
/-- block b is a map that holds just these, under some stamps -/
structure MapAt (w : World) (b : Nat) (kv : KV) : Prop where
  ex : ∃ es clock, w.heap[b]? = some (.map es clock) ∧ es.toList.map entOf = kv.map kvOf ∧ Stamped es clock
  len : ∀ p ∈ kv, p.1.length = 32
def mapE (b : Nat) (kv : KV) : Ent := ⟨some b, fun w => MapAt w b kv⟩
theorem MapAt.lt {w : World} {b : Nat} {kv : KV} (h : MapAt w b kv) : b < w.heap.size := by
  obtain ⟨es, clock, hb, _⟩ := h.ex
  exact (Array.getElem?_eq_some_iff.1 hb).1
theorem MapAt.kept {w w' : World} {b : Nat} {kv : KV} {row : Option Nat} (h : MapAt w b kv) (hg : w.grownBy w' row) (hr : some b ≠ row) : MapAt w' b kv := by
  have hlt := h.lt
  obtain ⟨es, clock, hb, h1, h2⟩ := h.ex
  exact ⟨⟨es, clock, (hg.block b hlt hr).trans hb, h1, h2⟩, h.len⟩
theorem mapE_good (b : Nat) (kv : KV) : (mapE b kv).good :=
  ⟨fun _ _ _ h hg hr => h.kept hg (by rcases hr with hr | hr; · cases hr
                                      · exact hr), fun _ h k hk => by cases hk; exact h.lt⟩
theorem Own.map {w0 w : World} {L : List Ent} {b : Nat} {kv : KV} (h : Own w0 w L) (i : Nat) (he : L[i]? = some (mapE b kv)) : MapAt w b kv := h.at_ i he

/-! ### the lists -/
theorem kv_mem {es : Array MapEntry} {kv : KV} (h : es.toList.map entOf = kv.map kvOf) {e : MapEntry} (he : e ∈ es.toList) : ∃ p ∈ kv, e.key = dgv p.1 ∧ e.val = p.2 := by
  have h1 : entOf e ∈ kv.map kvOf := by rw [← h]; exact List.mem_map.2 ⟨e, he, rfl⟩
  obtain ⟨p, hp, hpe⟩ := List.mem_map.1 h1
  have h2 : (dgv p.1, p.2) = (e.key, e.val) := hpe
  injection h2 with h3 h4
  exact ⟨p, hp, h3.symm, h4.symm⟩
theorem kv_at {es : Array MapEntry} {kv : KV} (h : es.toList.map entOf = kv.map kvOf) (j : Nat) (e : MapEntry) (he : es.toList[j]? = some e) : ∃ p, kv[j]? = some p ∧ e.key = dgv p.1 ∧ e.val = p.2 := by
  have h1 : (es.toList.map entOf)[j]? = some (entOf e) := by simp [he]
  rw [h, List.getElem?_map] at h1
  cases hp : kv[j]? with
  | none => rw [hp] at h1; simp at h1
  | some p =>
    rw [hp] at h1
    simp only [Option.map_some, Option.some.injEq] at h1
    have h2 : (dgv p.1, p.2) = (e.key, e.val) := h1
    injection h2 with h3 h4
    exact ⟨p, rfl, h3.symm, h4.symm⟩
theorem keys_nodup {es : Array MapEntry} {kv : KV} (h : es.toList.map entOf = kv.map kvOf) (hs : (es.toList.map (·.key)).Nodup) : (kv.map (·.1)).Nodup := by
  have e1 : es.toList.map (·.key) = (kv.map (·.1)).map dgv := by
    have := congrArg (List.map Prod.fst) h
    simpa [List.map_map, Function.comp_def, entOf, kvOf] using this
  rw [e1] at hs
  exact List.Pairwise.of_map dgv (fun a b h e => h (by rw [e])) hs
theorem MapAt.nodup {w : World} {b : Nat} {kv : KV} (h : MapAt w b kv) : (kv.map (·.1)).Nodup := by
  obtain ⟨es, clock, _, h1, h2⟩ := h.ex
  exact keys_nodup h1 h2.2.2
theorem find_at : ∀ {kv : KV} (hn : (kv.map (·.1)).Nodup) {j : Nat} {p : Dg × Value}, kv[j]? = some p → kv.find? (fun q => q.1 == p.1) = some p := by
  intro kv
  induction kv with
  | nil => intro hn j p h; simp at h
  | cons q r ih =>
    intro hn j p h
    simp only [List.map_cons, List.nodup_cons] at hn
    cases j with
    | zero => simp at h; subst h; simp
    | succ j =>
      simp at h
      have hm : p ∈ r := List.mem_of_getElem? h
      have hne : q.1 ≠ p.1 := fun e => hn.1 (List.mem_map.2 ⟨p, hm, e.symm⟩)
      rw [List.find?_cons_of_neg (by simpa using hne)]
      exact ih hn.2 h
theorem hasKV_look (kv : KV) (k : Dg) : hasKV kv k = (lookKV kv k).isSome := by
  unfold hasKV lookKV
  rw [Option.isSome_map, Bool.eq_iff_iff, List.any_eq_true, List.find?_isSome]

theorem map_one {α β γ : Type} (f : α → γ) (g : β → γ) : ∀ {l : List α} {m : List β}, l.map f = m.map g → ∀ (j : Nat) (x : α) (y : β), f x = g y → (l.set j x).map f = (m.set j y).map g := by
  intro l m h j x y hxy
  rw [List.map_set, List.map_set, h, hxy]

section
variable {P : Program} {K : TypeId} {w : World} {b : Nat} {kv : KV}
/-- a sum reads as a key -/
theorem key_dg {e : TypeId} (hK : P.underlying K = some (.array 32 e)) (he : P.underlying e = some (.int .u8)) (hce : P.cellsOf e = 1) (hcK : P.cellsOf K = 32) (hkt : P.keyType K = true) (hsz : P.types.size = (P.types.size - 1) + 1) (k : Dg) (hk : k.length = 32) :
    ∃ l, keyOf P K (dgv k) = some l := by
  have hf : (dgv k).formed P K = true := reads8_formed hK hcK k hk
  have hr : P.keyLits (P.types.size + 1) K (c8 k) = some (k.map lit8) := by
    have h1 := reads8_array (n := 32) (c := 1) (d := P.types.size) hK hce (by rw [hcK]) (by rw [hsz]; exact reads8_u8 _ he)
    exact h1 k (by omega)
  refine ⟨.string (keyBytes (k.map lit8)), ?_⟩
  unfold keyOf
  rw [hK]
  have hc : (dgv k).cells.toList = c8 k := rfl
  simp [hkt, hf, hc, hr]
variable {E : TypeId} (KD : Keyed P K) (kd : ∀ k : Dg, k.length = 32 → ∃ l, keyOf P K (dgv k) = some l)
include KD kd
theorem map_find {es : Array MapEntry} {clock : Nat} (h1 : es.toList.map entOf = kv.map kvOf) (hs : Stamped es clock) (hl : ∀ p ∈ kv, p.1.length = 32) (k : Dg) (hk : k.length = 32) :
    ((Instr.findKey K (dgv k) es.toList).run P w = .ok none w ∧ hasKV kv k = false ∧ ∀ e ∈ es.toList, e.key ≠ dgv k) ∨
    ∃ j e p, (Instr.findKey K (dgv k) es.toList).run P w = .ok (some (j, e.val)) w ∧ es.toList[j]? = some e ∧ e.key = dgv k ∧ kv[j]? = some p ∧ p.1 = k ∧ p.2 = e.val := by
  obtain ⟨l, hlk⟩ := kd k hk
  have hkeys : ∀ e ∈ es.toList, ∃ l, keyOf P K e.key = some l := fun e he => by
    obtain ⟨p, hp, h3, _⟩ := kv_mem h1 he
    rw [h3]; exact kd p.1 (hl p hp)
  rcases KD.find w hlk es.toList hkeys with ⟨f1, f2⟩ | ⟨j, e, f1, f2, f3⟩
  · refine .inl ⟨f1, ?_, f2⟩
    refine Bool.eq_false_iff.2 fun hh => ?_
    obtain ⟨p, hp, hpk⟩ := List.any_eq_true.1 hh
    have hpk' : p.1 = k := by simpa using hpk
    have hm : kvOf p ∈ es.toList.map entOf := by rw [h1]; exact List.mem_map.2 ⟨p, hp, rfl⟩
    obtain ⟨e, he, hee⟩ := List.mem_map.1 hm
    have h2 : (e.key, e.val) = (dgv p.1, p.2) := hee
    injection h2 with h3 h4
    exact f2 e he (by rw [h3, hpk'])
  · obtain ⟨p, hp, h3, h4⟩ := kv_at h1 j e f2
    exact .inr ⟨j, e, p, f1, f2, f3, hp, dgv_inj (by rw [← h3, f3]), h4.symm⟩
/-- 'm[k]' with ok -/
theorem MapAt.look {t : TypeId} (h : MapAt w b kv) (ht : P.underlying t = some (.map K E)) {z : Value} (hz : (zeroValue E).run P w = .ok z w) (k : Dg) (hk : k.length = 32) :
    (Instr.lookup t (.map (some b)) (dgv k) true).run P w = .ok (.tuple #[(lookKV kv k).getD z, .bool (hasKV kv k)]) w := by
  obtain ⟨es, clock, hb, h1, h2⟩ := h.ex
  obtain ⟨l, hlk⟩ := kd k hk
  rcases map_find (w := w) KD kd h1 h2 h.len k hk with ⟨f1, f2, f3⟩ | ⟨j, e, p, f1, f2, f3, f4, f5, f6⟩
  · have hlook : lookKV kv k = none := by
      have := hasKV_look kv k
      rw [f2] at this
      exact Option.not_isSome_iff_eq_none.1 (by rw [← this]; simp)
    rw [f2, hlook]
    simp [Instr.lookup, run_underlying ht, MapKept.run_getObj_map hb, KD.check w _ hlk, f1, hz, Result.andThen]
  · have hfnd := find_at h.nodup f4
    have hlook : lookKV kv k = some e.val := by unfold lookKV; rw [← f5, hfnd]; simp [f6]
    have hhas : hasKV kv k = true := by rw [hasKV_look, hlook]; rfl
    rw [hhas, hlook]
    simp [Instr.lookup, run_underlying ht, MapKept.run_getObj_map hb, KD.check w _ hlk, f1, Result.andThen]
/-- 'm[k] = v' -/
theorem MapAt.put {t : TypeId} (h : MapAt w b kv) (ht : P.underlying t = some (.map K E)) (k : Dg) (hk : k.length = 32) (v : Value) :
    ∃ w', (Instr.mapUpdate t (.map (some b)) (dgv k) v).run P w = .ok () w' ∧ MapAt w' b (putKV kv k v) ∧ w.grownBy w' (some b) ∧ w'.heap.size = w.heap.size := by
  have hlt := h.lt
  have hnd := h.nodup
  obtain ⟨es, clock, hb, h1, h2⟩ := h.ex
  obtain ⟨l, hlk⟩ := kd k hk
  have hgr : ∀ o, w.grownBy (setBlock w b o) (some b) := fun o => ⟨rfl, rfl, rfl, by simp [setBlock], fun j hj hne => by
    have : j ≠ b := fun e => hne (by rw [e])
    simp [setBlock, Array.getElem?_setIfInBounds, Ne.symm this]⟩
  have hat : ∀ o, (setBlock w b o).heap[b]? = some o := fun o => by simp [setBlock, hlt]
  rcases map_find (w := w) KD kd h1 h2 h.len k hk with ⟨f1, f2, f3⟩ | ⟨j, e, p, f1, f2, f3, f4, f5, f6⟩
  · refine ⟨setBlock w b (.map (es.push ⟨dgv k, v, clock⟩) (clock + 1)), ?_, ⟨⟨_, _, hat _, ?_, stamped_push h2 f3⟩, ?_⟩, hgr _, by simp [setBlock]⟩
    · simp [Instr.mapUpdate, run_underlying ht, MapKept.run_getObj_map hb, KD.check w false hlk, f1, MapKept.run_setObj_map _ hb, Result.andThen, setBlock]
    · unfold putKV
      rw [if_neg (by rw [f2]; simp), Array.toList_push, List.map_append, List.map_append, h1]; rfl
    · unfold putKV
      rw [if_neg (by rw [f2]; simp)]
      intro q hq
      rcases List.mem_append.1 hq with hq | hq
      · exact h.len q hq
      · rw [List.mem_singleton.1 hq]; exact hk
  · have hj : es[j]? = some e := by simpa using f2
    have hlook : lookKV kv k = some e.val := by unfold lookKV; rw [← f5, find_at hnd f4]; simp [f6]
    have hhas : hasKV kv k = true := by rw [hasKV_look, hlook]; rfl
    have hlist : (es.modify j (fun e' => { e' with key := dgv k, val := v })).toList = es.toList.set j { e with key := dgv k, val := v } := by rw [Array.toList_modify, modify_eq_set _ _ _ _ f2]
    have hput : putKV kv k v = kv.set j (k, v) := by
      unfold putKV
      rw [if_pos hhas]
      apply List.ext_getElem?
      intro i
      rw [List.getElem?_map, List.getElem?_set]
      have hjl : j < kv.length := (List.getElem?_eq_some_iff.1 f4).1
      by_cases hij : j = i
      · subst hij
        rw [if_pos rfl, if_pos hjl, f4]; simp [f5]
      · rw [if_neg hij]
        cases hi : kv[i]? with
        | none => rfl
        | some q =>
          have hne : q.1 ≠ k := by
            intro eq
            have hi2 : (kv.map (·.1))[i]? = some k := by simp [hi, eq]
            have hj2 : (kv.map (·.1))[j]? = some k := by simp [f4, f5]
            exact hij ((List.getElem?_inj (i := j) (j := i) (by simpa using hjl) hnd).1 (hj2.trans hi2.symm))
          simp [hne]
    refine ⟨setBlock w b (.map (es.modify j (fun e' => { e' with key := dgv k, val := v })) clock), ?_, ⟨⟨_, _, hat _, ?_, stamped_modify h2 _ _ (fun _ _ => rfl) (fun e' _ he' => by rw [hj] at he'; cases he'; exact f3.symm)⟩, ?_⟩, hgr _, by simp [setBlock]⟩
    · simp [Instr.mapUpdate, run_underlying ht, MapKept.run_getObj_map hb, KD.check w false hlk, f1, hj, f3, KD.stays w hlk, MapKept.run_setObj_map _ hb, Result.andThen, setBlock]
    · rw [hlist, hput]
      exact map_one entOf kvOf h1 j _ _ rfl
    · rw [hput]
      intro q hq
      rcases List.mem_or_eq_of_mem_set hq with hq | rfl
      · exact h.len q hq
      · exact hk
/-- 'delete(m, k)' -/
theorem MapAt.del {t ty : TypeId} (h : MapAt w b kv) (ht : P.underlying t = some (.map K E)) (k : Dg) (hk : k.length = 32) :
    ∃ w', (Builtin.delete_ #[t, K] ty #[.map (some b), dgv k]).run P w = .ok (.tuple #[]) w' ∧ MapAt w' b (delKV kv k) ∧ w.grownBy w' (some b) ∧ w'.heap.size = w.heap.size := by
  have hlt := h.lt
  have hnd := h.nodup
  obtain ⟨es, clock, hb, h1, h2⟩ := h.ex
  obtain ⟨l, hlk⟩ := kd k hk
  have hgr : ∀ o, w.grownBy (setBlock w b o) (some b) := fun o => ⟨rfl, rfl, rfl, by simp [setBlock], fun j hj hne => by
    have : j ≠ b := fun e => hne (by rw [e])
    simp [setBlock, Array.getElem?_setIfInBounds, Ne.symm this]⟩
  have hat : ∀ o, (setBlock w b o).heap[b]? = some o := fun o => by simp [setBlock, hlt]
  have hlen : ∀ q ∈ delKV kv k, q.1.length = 32 := fun q hq => h.len q (List.mem_filter.1 hq).1
  rcases map_find (w := w) KD kd h1 h2 h.len k hk with ⟨f1, f2, f3⟩ | ⟨j, e, p, f1, f2, f3, f4, f5, f6⟩
  · have hdel : delKV kv k = kv := by
      unfold delKV
      refine List.filter_eq_self.2 fun q hq => ?_
      have hh : ¬ (q.1 == k) = true := fun hqk => by
        have : hasKV kv k = true := List.any_eq_true.2 ⟨q, hq, hqk⟩
        rw [f2] at this; cases this
      simpa using hh
    refine ⟨setBlock w b (.map es clock), ?_, ⟨⟨_, _, hat _, by rw [hdel]; exact h1, h2⟩, hlen⟩, hgr _, by simp [setBlock]⟩
    simp [Builtin.delete_, run_underlying ht, MapKept.run_getObj_map hb, KD.check w _ hlk, f1, MapKept.run_setObj_map _ hb, Result.andThen, setBlock]
  · have hjl : j < es.toList.length := (List.getElem?_eq_some_iff.1 f2).1
    have hjs : j < es.size := by simpa using hjl
    have hsub : (es.eraseIdxIfInBounds j).toList = es.toList.eraseIdx j := by
      unfold Array.eraseIdxIfInBounds
      rw [dif_pos hjs]
      simp
    have hdel : delKV kv k = kv.eraseIdx j := by
      have hkl : j < kv.length := (List.getElem?_eq_some_iff.1 f4).1
      have hsplit : kv = kv.take j ++ p :: kv.drop (j + 1) := by
        have h4 := List.getElem?_eq_getElem hkl
        rw [f4] at h4
        injection h4 with h4
        rw [h4, List.getElem_cons_drop hkl, List.take_append_drop]
      have her : kv.eraseIdx j = kv.take j ++ kv.drop (j + 1) := List.eraseIdx_eq_take_drop_succ kv j
      rw [her]
      have hne : ∀ q, q ∈ kv.take j ∨ q ∈ kv.drop (j + 1) → q.1 ≠ k := by
        intro q hq
        rw [hsplit] at hnd
        simp only [List.map_append, List.map_cons] at hnd
        rw [List.nodup_append] at hnd
        obtain ⟨n1, n2, n3⟩ := hnd
        rw [List.nodup_cons] at n2
        rcases hq with hq | hq
        · intro eq
          exact n3 q.1 (List.mem_map.2 ⟨q, hq, rfl⟩) p.1 (by simp) (by rw [eq, f5])
        · intro eq
          exact n2.1 (List.mem_map.2 ⟨q, hq, by rw [eq, f5]⟩)
      unfold delKV
      conv => lhs; rw [hsplit]
      rw [List.filter_append, List.filter_cons_of_neg (by simp [f5])]
      rw [List.filter_eq_self.2 (fun q hq => by simpa using hne q (.inl hq)), List.filter_eq_self.2 (fun q hq => by simpa using hne q (.inr hq))]
    refine ⟨setBlock w b (.map (es.eraseIdxIfInBounds j) clock), ?_, ⟨⟨_, _, hat _, ?_, stamped_erase h2 j⟩, hlen⟩, hgr _, by simp [setBlock]⟩
    · simp [Builtin.delete_, run_underlying ht, MapKept.run_getObj_map hb, KD.check w _ hlk, f1, MapKept.run_setObj_map _ hb, Result.andThen, setBlock]
    · rw [hsub, hdel, ChangeMaps.map_eraseIdx, ChangeMaps.map_eraseIdx, h1]
end
theorem MapAt.made (w : World) : MapAt (w.alloc (.map #[] 0)) w.heap.size [] :=
  ⟨⟨#[], 0, (MapKept.heap_alloc w _).1, rfl, stamped_empty 0⟩, by simp⟩
end Go.Proofs.Ytnlnkojcbjaeeaa
