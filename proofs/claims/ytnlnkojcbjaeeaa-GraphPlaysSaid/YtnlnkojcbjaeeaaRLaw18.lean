/- Plain laws: the document's list and the graph's nodes agree; the nodes that are come to are the same. -/
import Derived.Test.YtnlnkojcbjaeeaaRReach18
import Derived.Test.YtnlnkojcbjaeeaaTriLaw18
namespace Go.Proofs.Ytnlnkojcbjaeeaa
set_option linter.unusedVariables false
set_option linter.unusedSimpArgs false
set_option linter.unusedSectionVars false
open Go.RowKit
set_option linter.unusedVariables false
def keysR (lr : Nodes) : List Dg := lr.map (·.1)
structure Agree (ns lr : Nodes) : Prop where
  eq : ∀ x, edgesOf lr x = edgesOf ns x
  rising : Rising (keysR lr)
  l32 : L32 (keysR lr)
theorem Agree.nil : Agree [] [] := ⟨fun _ => rfl, List.Pairwise.nil, L32.nil⟩
theorem edgesOf_nil (x : Dg) : edgesOf [] x = none := rfl
theorem edgesOf_cons (p : Dg × List Dg) (l : Nodes) (x : Dg) : edgesOf (p :: l) x = if p.1 = x then some p.2 else edgesOf l x := by
  unfold edgesOf
  by_cases h : p.1 = x
  · rw [if_pos h, List.find?_cons_of_pos (by simpa using h)]; rfl
  · rw [if_neg h, List.find?_cons_of_neg (by simpa using h)]
theorem edgesOf_app (l m : Nodes) (x : Dg) : edgesOf (l ++ m) x = (edgesOf l x).orElse fun _ => edgesOf m x := by
  induction l with
  | nil => rfl
  | cons p l ih =>
    rw [List.cons_append, edgesOf_cons, edgesOf_cons, ih]
    split <;> rfl
theorem edgesOf_filt (l : Nodes) (d x : Dg) (h : x ≠ d) : edgesOf (l.filter (fun p => p.1 != d)) x = edgesOf l x := by
  induction l with
  | nil => rfl
  | cons p l ih =>
    by_cases hp : p.1 = d
    · rw [List.filter_cons_of_neg (by simpa using hp), edgesOf_cons, if_neg (by rw [hp]; exact Ne.symm h), ih]
    · rw [List.filter_cons_of_pos (by simpa using hp), edgesOf_cons, edgesOf_cons, ih]
theorem edgesOf_filt_self (l : Nodes) (d : Dg) : edgesOf (l.filter (fun p => p.1 != d)) d = none := by
  induction l with
  | nil => rfl
  | cons p l ih =>
    by_cases hp : p.1 = d
    · rw [List.filter_cons_of_neg (by simpa using hp), ih]
    · rw [List.filter_cons_of_pos (by simpa using hp), edgesOf_cons, if_neg hp, ih]
theorem take_find {α : Type} : ∀ (l : List (Dg × α)) (d : Dg), ∀ p ∈ l.take (findR l d), belL p.1 d = true
  | [], d, p, hp => by simp at hp
  | q :: l, d, p, hp => by
    rw [findR_cons] at hp
    by_cases h : belL q.1 d = true
    · rw [if_pos h, List.take_succ_cons] at hp
      rcases List.mem_cons.1 hp with rfl | hp
      · exact h
      · exact take_find l d p hp
    · rw [if_neg h] at hp; simp at hp
theorem bel_ne {a d : Dg} (h : belL a d = true) : a ≠ d := by
  rintro rfl
  have := of_decide_eq_true h
  rw [cmpL_self] at this; omega
theorem edgesOf_none_of {l : Nodes} {d : Dg} (h : ∀ p ∈ l, p.1 ≠ d) : edgesOf l d = none := by
  induction l with
  | nil => rfl
  | cons p l ih => rw [edgesOf_cons, if_neg (h p (by simp)), ih (fun q hq => h q (by simp [hq]))]
theorem edgesOf_putR_self (lr : Nodes) (d : Dg) (to : List Dg) : edgesOf (putR lr d to) d = some to := by
  unfold putR
  rw [List.append_assoc, edgesOf_app, edgesOf_none_of (fun p hp => bel_ne (take_find lr d p hp))]
  show edgesOf ((d, to) :: _) d = some to
  rw [edgesOf_cons, if_pos rfl]
theorem edgesOf_putR_ne (lr : Nodes) (d x : Dg) (to : List Dg) (h : x ≠ d) : edgesOf (putR lr d to) x = edgesOf lr x := by
  have e : edgesOf lr x = edgesOf (lr.take (findR lr d) ++ lr.drop (findR lr d)) x := by rw [List.take_append_drop]
  rw [e]
  unfold putR
  rw [List.append_assoc, edgesOf_app (lr.take (findR lr d)) (lr.drop (findR lr d)), edgesOf_app (lr.take (findR lr d))]
  congr 1
  funext _
  rw [List.singleton_append, edgesOf_cons, if_neg (Ne.symm h), edgesOf_filt _ _ _ h]
theorem edgesOf_put_self (ns : Nodes) (d : Dg) (to : List Dg) : edgesOf (putN ns d to) d = some to := by
  unfold putN
  by_cases hs : (edgesOf ns d).isSome = true
  · rw [if_pos hs]
    induction ns with
    | nil => simp [edgesOf_nil] at hs
    | cons p ns ih =>
      rw [List.map_cons, edgesOf_cons]
      by_cases hp : p.1 = d
      · rw [if_pos hp, if_pos rfl]
      · rw [if_neg hp, if_neg hp]
        rw [edgesOf_cons, if_neg hp] at hs
        exact ih hs
  · rw [if_neg hs, edgesOf_app]
    have : edgesOf ns d = none := by simpa using hs
    rw [this]
    show edgesOf [(d, to)] d = some to
    rw [edgesOf_cons, if_pos rfl]
theorem drop_find : ∀ (lr : Nodes) (d : Dg), L32 (keysR lr) → d.length = 32 → Rising (keysR lr) → ∀ p ∈ (lr.drop (findR lr d)).filter (fun p => p.1 != d), cmpL d p.1 < 0
  | [], d, _, _, _, p, hp => by simp at hp
  | q :: lr, d, h32, hd, hr, p, hp => by
    obtain ⟨hr1, hr2⟩ := List.pairwise_cons.1 hr
    have h32' : L32 (keysR lr) := fun x hx => h32 x (List.mem_cons_of_mem _ hx)
    rw [findR_cons] at hp
    by_cases h : belL q.1 d = true
    · rw [if_pos h, List.drop_succ_cons] at hp
      exact drop_find lr d h32' hd hr2 p hp
    · rw [if_neg h, List.drop_zero] at hp
      have hq : ¬ cmpL q.1 d = -1 := fun e => h (decide_eq_true e)
      have hql := h32 q.1 (by simp [keysR])
      have a1 := cmpL_anti q.1 d
      have a2 := cmpL_range q.1 d
      obtain ⟨hp1, hp2⟩ := List.mem_filter.1 hp
      have hpd : p.1 ≠ d := by simpa using hp2
      rcases List.mem_cons.1 hp1 with rfl | hp1
      · have a3 : cmpL p.1 d ≠ 0 := fun e => hpd (cmpL_eq p.1 d (by rw [hql, hd]) e)
        omega
      · have hqp : cmpL q.1 p.1 < 0 := hr1 p.1 (List.mem_map_of_mem hp1)
        have hpl := h32' p.1 (List.mem_map_of_mem hp1)
        have t := cmpL_trans d q.1 p.1 (by rw [hd, hql]) (by rw [hql, hpl]) (by omega) (by omega)
        have a3 : cmpL d p.1 ≠ 0 := fun e => hpd (cmpL_eq d p.1 (by rw [hd, hpl]) e).symm
        omega
theorem Agree.put {ns lr : Nodes} (h : Agree ns lr) (d : Dg) (to : List Dg) (hd : d.length = 32) : Agree (putN ns d to) (putR lr d to) := by
  refine ⟨fun x => ?_, ?_, ?_⟩
  · by_cases hx : x = d
    · subst hx; rw [edgesOf_putR_self, edgesOf_put_self]
    · rw [edgesOf_putR_ne _ _ _ _ hx, edgesOf_put_ne to hx, h.eq]
  · have h1 := h.rising
    unfold Rising keysR at *
    unfold putR
    rw [List.pairwise_map] at h1 ⊢
    rw [List.append_assoc, List.pairwise_append]
    refine ⟨h1.sublist (List.take_sublist _ _), ?_, ?_⟩
    · show List.Pairwise _ ((d, to) :: _)
      rw [List.pairwise_cons]
      exact ⟨fun p hp => drop_find lr d h.l32 hd h.rising p hp, (h1.sublist (List.drop_sublist _ _)).sublist List.filter_sublist⟩
    · intro p hp q hq
      have hb : cmpL p.1 d = -1 := of_decide_eq_true (take_find lr d p hp)
      rcases List.mem_cons.1 hq with rfl | hq
      · show cmpL p.1 d < 0
        omega
      · have hdq := drop_find lr d h.l32 hd h.rising q hq
        have hpl := h.l32 p.1 (List.mem_map_of_mem (List.mem_of_mem_take hp))
        have hql := h.l32 q.1 (List.mem_map_of_mem (List.mem_of_mem_drop (List.mem_filter.1 hq).1))
        have t := cmpL_trans p.1 d q.1 (by rw [hpl, hd]) (by rw [hd, hql]) (by omega) (by omega)
        have a3 : cmpL p.1 q.1 ≠ 0 := fun e => by
          have := cmpL_eq p.1 q.1 (by rw [hpl, hql]) e
          rw [← this] at hdq
          have := cmpL_anti p.1 d
          omega
        omega
  · intro x hx
    obtain ⟨p, hp, rfl⟩ := List.mem_map.1 hx
    unfold putR at hp
    rcases List.mem_append.1 hp with hp | hp
    · rcases List.mem_append.1 hp with hp | hp
      · exact h.l32 _ (List.mem_map_of_mem (List.mem_of_mem_take hp))
      · rw [List.mem_singleton.1 hp]; exact hd
    · exact h.l32 _ (List.mem_map_of_mem (List.mem_of_mem_drop (List.mem_filter.1 hp).1))
theorem putR_len {α : Type} (l : List (Dg × α)) (d : Dg) (a : α) : (putR l d a).length ≤ l.length + 1 := by
  unfold putR
  have := List.length_filter_le (fun p : Dg × α => p.1 != d) (l.drop (findR l d))
  have h2 := findR_le l d
  simp only [List.length_append, List.length_take, List.length_drop, List.length_singleton] at this ⊢
  omega
theorem putR_low {lr : Nodes} (h : Low lr) (d : Dg) (l : List Dg) (hl : l.length ≤ 12) : Low (putR lr d l) := by
  intro p hp
  unfold putR at hp
  rcases List.mem_append.1 hp with hp | hp
  · rcases List.mem_append.1 hp with hp | hp
    · exact h p (List.mem_of_mem_take hp)
    · rw [List.mem_singleton.1 hp]; exact hl
  · exact h p (List.mem_of_mem_drop (List.mem_filter.1 hp).1)
/-! ### the nodes that are come to -/
theorem keysR_get (lr : Nodes) (i : Nat) (hi : i < lr.length) : xn lr i ∈ keysR lr := List.mem_map_of_mem (getD_mem hi _)
theorem edgesOf_at : ∀ {lr : Nodes}, (keysR lr).Nodup → ∀ i, i < lr.length → edgesOf lr (xn lr i) = some (tn lr i)
  | [], _, i, hi => by simp at hi
  | p :: lr, h, 0, _ => by
    show edgesOf (p :: lr) p.1 = some p.2
    rw [edgesOf_cons, if_pos rfl]
  | p :: lr, h, i + 1, hi => by
    obtain ⟨h1, h2⟩ := List.nodup_cons.1 h
    have hi' : i < lr.length := by simpa using hi
    show edgesOf (p :: lr) (xn lr i) = some (tn lr i)
    rw [edgesOf_cons, if_neg (fun e : p.1 = xn lr i => h1 (show p.1 ∈ keysR lr by rw [e]; exact keysR_get lr i hi'))]
    exact edgesOf_at h2 i hi'
theorem node_at {lr : Nodes} {y : Dg} (h : edgesOf lr y ≠ none) : ∃ i, i < lr.length ∧ xn lr i = y := by
  induction lr with
  | nil => exact absurd rfl h
  | cons p lr ih =>
    by_cases hp : p.1 = y
    · exact ⟨0, by simp, hp⟩
    · rw [edgesOf_cons, if_neg hp] at h
      obtain ⟨i, hi, hx⟩ := ih h
      exact ⟨i + 1, by simpa using hi, hx⟩
theorem reachB_tri (ns : Nodes) (roots : List Dg) : Tri ns roots ([], reachB ns roots) := by
  have h := tri_step ns roots (pot ns (roots, [])) _ (tri_start ns roots)
  have e := step_ends ns (pot ns (roots, [])) (roots, []) (Nat.le_refl _)
  unfold reachB
  have e2 : stepM ns (pot ns (roots, [])) (roots, []) = ([], (stepM ns (pot ns (roots, [])) (roots, [])).2) := Prod.ext e rfl
  rwa [e2] at h
theorem reach_root {ns lr : Nodes} {roots : List Dg} (ha : Agree ns lr) (hn : (keysR lr).Nodup) : ∀ i, i < lr.length → xn lr i ∈ roots → xn lr i ∈ reachB ns roots := by
  intro i hi hr
  rcases (reachB_tri ns roots).2 _ hr with h | h | h
  · exact h
  · cases h
  · rw [← ha.eq, edgesOf_at hn i hi] at h; cases h
theorem reach_edge {ns lr : Nodes} {roots : List Dg} (ha : Agree ns lr) (hn : (keysR lr).Nodup) : ∀ k, k < lr.length → ∀ i, i < lr.length → xn lr k ∈ reachB ns roots → xn lr i ∈ tn lr k → xn lr i ∈ reachB ns roots := by
  intro k hk i hi h1 h2
  rcases (reachB_tri ns roots).1 _ h1 (tn lr k) (by rw [← ha.eq]; exact edgesOf_at hn k hk) _ h2 with h | h | h
  · exact h
  · cases h
  · rw [← ha.eq, edgesOf_at hn i hi] at h; cases h
theorem comeL_mem {ns : Nodes} {cm : List Bool} {n : Nat} {x : Dg} : x ∈ comeL ns cm n ↔ ∃ i, i < n ∧ cm.getD i false = true ∧ xn ns i = x := by
  unfold comeL
  simp only [List.mem_map, List.mem_filter, List.mem_range]
  constructor
  · rintro ⟨i, ⟨h1, h2⟩, h3⟩; exact ⟨i, h1, h2, h3⟩
  · rintro ⟨i, h1, h2, h3⟩; exact ⟨i, ⟨h1, h2⟩, h3⟩
theorem keysR_range (lr : Nodes) : (List.range lr.length).map (xn lr) = keysR lr := by
  refine List.ext_getElem (by simp [keysR]) fun i h1 h2 => ?_
  simp only [List.length_map, List.length_range] at h1
  simp [xn, keysR, h1]
theorem comeL_sub (lr : Nodes) (cm : List Bool) : (comeL lr cm lr.length).Sublist (keysR lr) := by
  rw [← keysR_range]
  exact List.Sublist.map _ List.filter_sublist
theorem come_eq {ns lr : Nodes} {roots R : List Dg} {cm : List Bool} (ha : Agree ns lr) (hs : SndC (reachB ns roots) lr cm) (hc : ClsC lr roots cm lr.length lr.length) (hp : R.Perm (reachB ns roots)) (hR : Rising R) : R = comeL lr cm lr.length := by
  have hn := ha.rising.nodup
  have hC : Rising (comeL lr cm lr.length) := ha.rising.sublist (comeL_sub lr cm)
  have h32 : L32 (comeL lr cm lr.length) := fun x hx => ha.l32 x ((comeL_sub lr cm).subset hx)
  have fill : ∀ y, (edgesOf ns y = none ∨ ∀ i, i < lr.length → xn lr i = y → isU lr roots cm i lr.length = true) → y ∈ comeL lr cm lr.length ∨ edgesOf ns y = none := by
    intro y hy
    rcases hy with hy | hy
    · exact .inr hy
    · by_cases he : edgesOf ns y = none
      · exact .inr he
      · rw [← ha.eq] at he
        obtain ⟨i, hi, hx⟩ := node_at he
        refine .inl (comeL_mem.2 ⟨i, hi, ?_, hx⟩)
        cases hb : cm.getD i false with
        | true => rfl
        | false => have := hc i hi hb; rw [hy i hi hx] at this; cases this
  have hsub : ∀ x ∈ reachB ns roots, x ∈ comeL lr cm lr.length := by
    refine sound_step ns (comeL lr cm lr.length) ?_ (pot ns (roots, [])) (roots, []) ?_ (fun x hx => by cases hx)
    · intro x hx l hl y hy
      obtain ⟨k, hk, hck, hxk⟩ := comeL_mem.1 hx
      refine fill y (.inr fun i hi hxi => ?_)
      have hl2 : l = tn lr k := by
        have := edgesOf_at hn k hk
        rw [hxk, ha.eq, hl] at this
        exact Option.some.inj this
      unfold isU
      rw [Bool.or_eq_true]
      refine .inr (List.any_eq_true.2 ⟨k, List.mem_range.2 hk, ?_⟩)
      rw [Bool.and_eq_true]
      exact ⟨hck, decide_eq_true (by rw [hxi, ← hl2]; exact hy)⟩
    · intro y hy
      refine fill y (.inr fun i hi hxi => ?_)
      unfold isU
      rw [Bool.or_eq_true]
      exact .inl (decide_eq_true (by rw [hxi]; exact hy))
  have hperm : (comeL lr cm lr.length).Perm R := by
    refine (List.perm_ext_iff_of_nodup hC.nodup hR.nodup).2 fun x => ?_
    rw [hp.mem_iff]
    constructor
    · intro hx
      obtain ⟨k, hk, hck, hxk⟩ := comeL_mem.1 hx
      rw [← hxk]; exact hs k hck
    · exact hsub x
  exact (rising_eq h32 hC hR hperm).symm
end Go.Proofs.Ytnlnkojcbjaeeaa
