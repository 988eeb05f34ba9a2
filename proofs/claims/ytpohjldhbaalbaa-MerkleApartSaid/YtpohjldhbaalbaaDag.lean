/- Regions that draw: several calls and new blocks, in every order: each operation is walked once. No program in sight. -/
import Derived.Test.YtpohjldhbaalbaaMix3
namespace Go.Proofs.Ytpohjldhbaalbaa
set_option linter.unusedVariables false
set_option linter.unusedSimpArgs false
set_option linter.unusedSectionVars false
open Go.RowKit
section
variable {P : Program} {ops : Array Oper} {C : World → Prop} {keeps : Nat → Bool} {md : Region.Mode}

inductive DagK where
  | val (v : Value)
  | new (t : TypeId) (cs : List Value)
/-- an operation's number, its slot, what it yields -/
abbrev Dag := List (Nat × Nat × DagK)
def dval (g : Nat → Nat) : Nat × Nat × DagK → Value
  | (_, _, .val v) => v
  | (_, d, .new _ _) => .pointer (some ⟨g d, 0, none⟩)
def putsL (a : Act) (f : Nat → Value) : Dag → Act
  | [] => a
  | (_, d, _) :: r => (putsL a f r).put (some d) (f d)
def putsS (a : Act) (g : Nat → Nat) : Dag → Act
  | [] => a
  | (i, d, .val v) :: r => (putsS a g r).put (some d) v
  | (i, d, .new t cs) :: r => (putsS a g r).put (some d) (.pointer (some ⟨g d, 0, none⟩))
def rowsOf (g : Nat → Nat) : Dag → List Ent
  | [] => []
  | (_, _, .val _) :: r => rowsOf g r
  | (_, d, .new t cs) :: r => rowE (g d) t cs :: rowsOf g r

theorem put_put (a : Act) (d : Nat) (u v : Value) : (a.put (some d) u).put (some d) v = a.put (some d) v := by
  simp [Act.put]
theorem putsL_congr (a : Act) {f f' : Nat → Value} : ∀ (l : Dag), (∀ s ∈ l, f s.2.1 = f' s.2.1) → putsL a f l = putsL a f' l
  | [], _ => rfl
  | (i, d, k) :: r, h => by
    have h0 : f d = f' d := h (i, d, k) (by simp)
    show (putsL a f r).put (some d) (f d) = (putsL a f' r).put (some d) (f' d)
    rw [putsL_congr a r (fun s hs => h s (by simp [hs])), h0]
theorem putsL_put (a : Act) (f : Nat → Value) (d : Nat) (v : Value) : ∀ (l : Dag), (l.map (·.2.1)).Nodup → d ∈ l.map (·.2.1) → (putsL a f l).put (some d) v = putsL a (fun x => if x = d then v else f x) l
  | (i, e, k) :: r, hn, hd => by
    simp only [List.map_cons, List.nodup_cons] at hn
    show ((putsL a f r).put (some e) (f e)).put (some d) v = (putsL a _ r).put (some e) (if e = d then v else f e)
    by_cases he : e = d
    · subst he
      rw [put_put, if_pos rfl]
      congr 1
      exact putsL_congr a r fun s hs => by rw [if_neg]; rintro rfl; exact hn.1 (List.mem_map.2 ⟨s, hs, rfl⟩)
    · rw [if_neg he, ← putsL_put a f d v r hn.2 (by simpa [Ne.symm he] using hd)]
      exact Act.put_comm _ _ _ (fun x hx hy => he (by injection hx with hx; injection hy with hy; rw [hx, ← hy]))
theorem putsL_S (a : Act) (g : Nat → Nat) (f : Nat → Value) : ∀ (l : Dag), (∀ s ∈ l, f s.2.1 = dval g s) → putsL a f l = putsS a g l
  | [], _ => rfl
  | (i, d, .val v) :: r, h => by
    show (putsL a f r).put (some d) (f d) = (putsS a g r).put (some d) v
    rw [putsL_S a g f r (fun s hs => h s (by simp [hs])), show f d = v from h (i, d, .val v) (by simp)]
  | (i, d, .new t cs) :: r, h => by
    show (putsL a f r).put (some d) (f d) = (putsS a g r).put (some d) _
    rw [putsL_S a g f r (fun s hs => h s (by simp [hs])), show f d = _ from h (i, d, .new t cs) (by simp)]; rfl

theorem nodup_inj {α β : Type} (f : α → β) : ∀ {l : List α}, (l.map f).Nodup → ∀ {a b : α}, a ∈ l → b ∈ l → f a = f b → a = b
  | x :: r, hn, a, b, ha, hb, he => by
    simp only [List.map_cons, List.nodup_cons] at hn
    rcases List.mem_cons.1 ha with h1 | h1 <;> rcases List.mem_cons.1 hb with h2 | h2
    · rw [h1, h2]
    · subst h1; exact absurd (List.mem_map.2 ⟨b, h2, he.symm⟩) hn.1
    · subst h2; exact absurd (List.mem_map.2 ⟨a, h1, he⟩) hn.1
    · exact nodup_inj f hn.2 h1 h2 he
theorem Own.cons {w0 w : World} {L : List Ent} {e : Ent} (h : Own w0 w L) (hg : e.good) (hP : e.P w) (hb : ∀ k, e.blk = some k → w0.heap.size ≤ k) (ha : ∀ y ∈ L, e.blk = none ∨ e.blk ≠ y.blk) : Own w0 w (e :: L) := by
  refine ⟨h.grown, fun x hx => ?_, List.pairwise_cons.2 ⟨ha, h.apart⟩⟩
  rcases List.mem_cons.1 hx with rfl | hx
  · exact ⟨hg, hP, hb⟩
  · exact h.good x hx
theorem mem_rowsOf (g : Nat → Nat) : ∀ (l : Dag) (e : Ent), e ∈ rowsOf g l → ∃ s ∈ l, ∃ t cs, s.2.2 = .new t cs ∧ e = rowE (g s.2.1) t cs
  | (i, d, .val v) :: r, e, h => by
    obtain ⟨s, hs, x⟩ := mem_rowsOf g r e h
    exact ⟨s, by simp [hs], x⟩
  | (i, d, .new t cs) :: r, e, h => by
    rcases List.mem_cons.1 h with rfl | h
    · exact ⟨(i, d, .new t cs), by simp, t, cs, rfl, rfl⟩
    · obtain ⟨s, hs, x⟩ := mem_rowsOf g r e h
      exact ⟨s, by simp [hs], x⟩
def DagK.isNew : DagK → Bool
  | .new _ _ => true
  | .val _ => false
theorem rows_own {w0 w1 W : World} {L0 : List Ent} (g : Nat → Nat) (hS : Own w0 w1 L0) (hg : w1.grownBy W none) : ∀ (l : Dag), (l.map (·.2.1)).Nodup →
    (∀ s ∈ l, ∀ t cs, s.2.2 = .new t cs → w1.heap.size ≤ g s.2.1 ∧ Row W (g s.2.1) t cs) →
    (∀ s ∈ l, ∀ s' ∈ l, s.2.2.isNew = true → s'.2.2.isNew = true → s.2.1 ≠ s'.2.1 → g s.2.1 ≠ g s'.2.1) → Own w0 W (rowsOf g l ++ L0)
  | [], _, _, _ => hS.call hg
  | (i, d, .val v) :: r, hn, h1, h2 => by
    simp only [List.map_cons, List.nodup_cons] at hn
    exact rows_own g hS hg r hn.2 (fun s hs => h1 s (by simp [hs])) (fun s hs s' hs' => h2 s (by simp [hs]) s' (by simp [hs']))
  | (i, d, .new t cs) :: r, hn, h1, h2 => by
    simp only [List.map_cons, List.nodup_cons] at hn
    have ih := rows_own g hS hg r hn.2 (fun s hs => h1 s (by simp [hs])) (fun s hs s' hs' => h2 s (by simp [hs]) s' (by simp [hs']))
    obtain ⟨hb, hr⟩ := h1 (i, d, .new t cs) (by simp) t cs rfl
    refine ih.cons (rowE_good _ _ _) hr (fun k hk => by cases hk; exact Nat.le_trans hS.grown.size hb) fun y hy => .inr ?_
    rcases List.mem_append.1 hy with hy | hy
    · obtain ⟨s, hs, t', cs', hk, rfl⟩ := mem_rowsOf g r y hy
      show some (g d) ≠ some (g s.2.1)
      intro he
      injection he with he
      refine h2 (i, d, .new t cs) (by simp) s (by simp [hs]) rfl (by rw [hk]; rfl) ?_ he
      rintro rfl
      exact hn.1 (List.mem_map.2 ⟨s, hs, rfl⟩)
    · intro he
      have := (hS.good y hy).1.2 w1 (hS.good y hy).2.1 (g d) he.symm
      exact absurd (Nat.lt_of_lt_of_le this hb) (Nat.lt_irrefl _)

structure DInv (a0 : Act) (w1 : World) (l : Dag) (listed : Array Bool) (f : Nat → Value) (g : Nat → Nat) (a : Act) (W : World) : Prop where
  act : a = putsL a0 f l
  grown : w1.grownBy W none
  vals : ∀ s ∈ l, listed.getD s.1 false = true → f s.2.1 = dval g s
  rows : ∀ s ∈ l, listed.getD s.1 false = true → ∀ t cs, s.2.2 = .new t cs → w1.heap.size ≤ g s.2.1 ∧ Row W (g s.2.1) t cs
  apart : ∀ s ∈ l, ∀ s' ∈ l, listed.getD s.1 false = true → listed.getD s'.1 false = true → s.2.2.isNew = true → s'.2.2.isNew = true → s.2.1 ≠ s'.2.1 → g s.2.1 ≠ g s'.2.1

/-- what is asked of each operation -/
def dagStep (P : Program) (ops : Array Oper) (w0 : World) (L0 : List Ent) (a0 : Act) (l : Dag) (i d : Nat) (k : DagK) : Prop :=
  ∃ o, ops[i]? = some o ∧ o.guard = none ∧ ∀ (f : Nat → Value) (W : World) (K : Act → World → Prop), Own w0 W L0 →
    (match k with
    | .val v => ∀ W' a', a' = (putsL a0 f l).put (some d) v → W.grownBy W' none → K a' W'
    | .new t cs => ∀ W' a', a' = (putsL a0 f l).put (some d) (.pointer (some ⟨W.heap.size, 0, none⟩)) → Row W' W.heap.size t cs → W.grownBy W' none → K a' W') → wpList P ops (OnlyNormal K) [o] (putsL a0 f l) W
def dagSteps (P : Program) (ops : Array Oper) (w0 : World) (L0 : List Ent) (a0 : Act) (l : Dag) : Dag → Prop
  | [] => True
  | (i, d, k) :: r => dagStep P ops w0 L0 a0 l i d k ∧ dagSteps P ops w0 L0 a0 l r
theorem dagSteps_mem {w0 : World} {L0 : List Ent} {a0 : Act} {l : Dag} : ∀ {r : Dag}, dagSteps P ops w0 L0 a0 l r → ∀ s ∈ r, dagStep P ops w0 L0 a0 l s.1 s.2.1 s.2.2
  | (i, d, k) :: r, h, s, hs => by
    rcases List.mem_cons.1 hs with rfl | hs
    · exact h.1
    · exact dagSteps_mem h.2 s hs

def dagB (md : Region.Mode) (ops : Array Oper) (idx : List Nat) (fin : Array Bool → Bool) : Nat → Array Bool → Bool
  | 0, listed => fin listed
  | n + 1, listed => !(Region.ready md ops listed).isEmpty && (Region.ready md ops listed).all fun i => idx.contains i && dagB md ops idx fin n (listed.setIfInBounds i true)
theorem wpAny_dag {Kn : Act → World → Prop} {idx : List Nat} {fin : Array Bool → Bool} {m : Nat} {Inv : Array Bool → Act → World → Prop}
    (hstep : ∀ i ∈ idx, ∀ listed a w, listed.getD i true = false → Inv listed a w → wpOp P ops (OnlyNormal Kn) i (fun a' w' => (keeps i = true → C w') ∧ Inv (listed.setIfInBounds i true) a' w') a w)
    (hend : ∀ listed a w, fin listed = true → Inv listed a w → wpAnyC P md ops C keeps Kn m listed a w) :
    ∀ (n : Nat) (listed : Array Bool) (a : Act) (w : World), dagB md ops idx fin n listed = true → Inv listed a w → wpAnyC P md ops C keeps Kn (n + m) listed a w
  | 0, listed, a, w, hB, h => by rw [Nat.zero_add]; exact hend listed a w hB h
  | n + 1, listed, a, w, hB, h => by
    rw [show n + 1 + m = (n + m) + 1 by omega]
    simp only [dagB, Bool.and_eq_true, List.all_eq_true, Bool.not_eq_true'] at hB
    refine ⟨fun h0 => (by rw [h0] at hB; simp at hB), fun i hi => ?_⟩
    obtain ⟨h1, h2⟩ := hB.2 i hi
    exact wpOp_mono (fun a' w' h' => ⟨h'.1, wpAny_dag hstep hend n _ a' w' h2 h'.2⟩) (hstep i (by simpa using h1) listed a w (mem_ready.1 hi).1 h)

def dagFin (md : Region.Mode) (ops : Array Oper) (keeps : Nat → Bool) (l : Dag) (rest : List Nat) (listed : Array Bool) : Bool :=
  (l.all fun s => listed.getD s.1 false) && mixB md ops keeps (rest.map fun i => (i, false)) listed
def dagPre (md : Region.Mode) (ops : Array Oper) (keeps : Nat → Bool) (l : Dag) (rest : List Nat) : List Nat → Array Bool → Bool
  | [], listed => (l.all fun s => !listed.getD s.1 false) && dagB md ops (l.map (·.1)) (dagFin md ops keeps l rest) l.length listed
  | i :: r, listed => (Region.ready md ops listed).contains i && Region.free md ops listed i && waitsAll md ops keeps i && dagPre md ops keeps l rest r (listed.setIfInBounds i true)
theorem getD_false_of {listed : Array Bool} {i : Nat} (h : listed.getD i true = false) : i < listed.size := by
  rcases Nat.lt_or_ge i listed.size with h' | h'
  · exact h'
  · simp [h'] at h
theorem getD_listed (listed : Array Bool) (i j : Nat) : (listed.setIfInBounds i true).getD j false = true ↔ (i = j ∧ i < listed.size) ∨ listed.getD j false = true := by
  by_cases hij : i = j
  · subst hij
    rcases Nat.lt_or_ge i listed.size with h' | h'
    · simp [h']
    · simp [h', Nat.not_lt.2 h']
  · rw [getD_set_ne false hij]; simp [hij]
/-- What is asked behind the pure operations. -/
def DagGoal (P : Program) (ops : Array Oper) (C : World → Prop) (keeps : Nat → Bool) (Kn : Act → World → Prop) (w0 : World) (L0 : List Ent) (l : Dag) (rest : List Nat) (a0 : Act) (w1 : World) : Prop :=
  dagSteps P ops w0 L0 a0 l l ∧ ∀ (g : Nat → Nat) (W : World), w1.heap.size ≤ W.heap.size → Own w0 W (rowsOf g l ++ L0) → wpMix P ops C keeps Kn (rest.map fun i => (i, false)) (putsS a0 g l) W
theorem wpAny_dagGoal {Kn : Act → World → Prop} {w0 : World} {L0 : List Ent} {l : Dag} {rest : List Nat} (hs : Region.noSelect ops = true) (hd : (l.map (·.2.1)).Nodup) (hi : (l.map (·.1)).Nodup)
    {listed : Array Bool} {a0 : Act} {w1 : World} (hS : Own w0 w1 L0) (h0 : (l.all fun s => !listed.getD s.1 false) = true) (hB : dagB md ops (l.map (·.1)) (dagFin md ops keeps l rest) l.length listed = true)
    (h : DagGoal P ops (fun W => Own w0 W L0) keeps Kn w0 L0 l rest a0 w1) (hslots : ∃ f, a0 = putsL a0 f l) : wpAnyC P md ops (fun W => Own w0 W L0) keeps Kn (l.length + rest.length) listed a0 w1 := by
  obtain ⟨f0, hf0⟩ := hslots
  refine wpAny_dag (Inv := fun li a W => ∃ f g, DInv a0 w1 l li f g a W) ?_ ?_ l.length listed a0 w1 hB ?_
  · intro i hil listed a W hun ⟨f, g, I⟩
    obtain ⟨s, hsl, rfl⟩ := List.mem_map.1 hil
    obtain ⟨i, d, k⟩ := s
    have hlt := getD_false_of hun
    have huniq : ∀ s' ∈ l, s'.1 = i → s' = (i, d, k) := fun s' hs' he => nodup_inj (·.1) hi hs' hsl he
    have hslot : ∀ s' ∈ l, s'.2.1 = d → s' = (i, d, k) := fun s' hs' he => nodup_inj (·.2.1) hd hs' hsl he
    have hdm : d ∈ l.map (·.2.1) := List.mem_map.2 ⟨(i, d, k), hsl, rfl⟩
    have hSW := hS.call I.grown
    obtain ⟨o, ho, hg, hstep⟩ := dagSteps_mem h.1 (i, d, k) hsl
    have hw : Region.wanted o (yielded ops a.tmps) = true := by simp [Region.wanted, hg]
    have hact := I.act
    subst hact
    refine wpOp_mono (K := fun a' w' => (keeps i = true → Own w0 w' L0) ∧ ∃ f g, DInv a0 w1 l (listed.setIfInBounds i true) f g a' w') (fun _ _ h => h) ?_
    unfold wpOp
    simp only [ho, hw, if_true]
    have hmain : wpList P ops (OnlyNormal fun a' w' => (keeps i = true → Own w0 w' L0) ∧ ∃ f g, DInv a0 w1 l (listed.setIfInBounds i true) f g a' w') [o] (putsL a0 f l) W := by
      refine hstep f W _ hSW ?_
      cases k with
      | val v =>
        rintro W' a' rfl hgr
        refine ⟨fun _ => hSW.call hgr, fun x => if x = d then v else f x, g, putsL_put a0 f d v l hd hdm, grownBy_trans I.grown hgr, ?_, ?_, ?_⟩
        · intro s' hs' hl'
          by_cases he : s'.2.1 = d
          · rw [hslot s' hs' he]; show (if d = d then v else f d) = v; rw [if_pos rfl]
          · show (if s'.2.1 = d then v else f s'.2.1) = _
            rw [if_neg he]
            rcases (getD_listed _ _ _).1 hl' with ⟨h1, _⟩ | h1
            · rw [huniq s' hs' h1.symm] at he; exact absurd rfl he
            · exact I.vals s' hs' h1
        · intro s' hs' hl' t cs hk
          rcases (getD_listed _ _ _).1 hl' with ⟨h1, _⟩ | h1
          · rw [huniq s' hs' h1.symm] at hk; cases hk
          · obtain ⟨x, y⟩ := I.rows s' hs' h1 t cs hk
            exact ⟨x, y.grown hgr (by simp)⟩
        · intro s1 h1 s2 h2 l1 l2 n1 n2 hne
          rcases (getD_listed _ _ _).1 l1 with ⟨e1, _⟩ | l1
          · rw [huniq s1 h1 e1.symm] at n1; cases n1
          rcases (getD_listed _ _ _).1 l2 with ⟨e2, _⟩ | l2
          · rw [huniq s2 h2 e2.symm] at n2; cases n2
          exact I.apart s1 h1 s2 h2 l1 l2 n1 n2 hne
      | new t cs =>
        rintro W' a' rfl hrow hgr
        have hdv : ∀ s' ∈ l, s'.2.1 ≠ d → dval (fun x => if x = d then W.heap.size else g x) s' = dval g s' := by
          rintro ⟨i', d', k'⟩ hs' hne
          cases k' with
          | val v => rfl
          | new t' cs' => show Value.pointer (some ⟨if d' = d then _ else g d', 0, none⟩) = .pointer (some ⟨g d', 0, none⟩); rw [if_neg hne]
        refine ⟨fun _ => hSW.call hgr, fun x => if x = d then .pointer (some ⟨W.heap.size, 0, none⟩) else f x, fun x => if x = d then W.heap.size else g x, putsL_put a0 f d _ l hd hdm, grownBy_trans I.grown hgr, ?_, ?_, ?_⟩
        · intro s' hs' hl'
          by_cases he : s'.2.1 = d
          · rw [hslot s' hs' he]; simp [dval]
          · show (if s'.2.1 = d then _ else f s'.2.1) = _
            rw [if_neg he, hdv s' hs' he]
            rcases (getD_listed _ _ _).1 hl' with ⟨h1, _⟩ | h1
            · rw [huniq s' hs' h1.symm] at he; exact absurd rfl he
            · exact I.vals s' hs' h1
        · intro s' hs' hl' t' cs' hk
          by_cases he : s'.2.1 = d
          · have := hslot s' hs' he
            subst this
            injection hk with hk1 hk2
            subst hk1; subst hk2
            simp only [if_true]
            exact ⟨I.grown.size, hrow⟩
          · rcases (getD_listed _ _ _).1 hl' with ⟨h1, _⟩ | h1
            · rw [huniq s' hs' h1.symm] at he; exact absurd rfl he
            · obtain ⟨x, y⟩ := I.rows s' hs' h1 t' cs' hk
              simp only [if_neg he]
              exact ⟨x, y.grown hgr (by simp)⟩
        · have hlt' : ∀ s' ∈ l, s'.2.1 ≠ d → (listed.setIfInBounds i true).getD s'.1 false = true → s'.2.2.isNew = true → g s'.2.1 < W.heap.size ∧ listed.getD s'.1 false = true := fun s' hs' hne hl' hn => by
            rcases (getD_listed _ _ _).1 hl' with ⟨h1, _⟩ | h1
            · rw [huniq s' hs' h1.symm] at hne; exact absurd rfl hne
            · obtain ⟨i', d', k'⟩ := s'
              cases k' with
              | val v => cases hn
              | new t' cs' => exact ⟨(I.rows _ hs' h1 t' cs' rfl).2.lt, h1⟩
          intro s1 h1 s2 h2 l1 l2 n1 n2 hne
          by_cases e1 : s1.2.1 = d
          · have e2 : s2.2.1 ≠ d := fun e => hne (e1.trans e.symm)
            have := (hlt' s2 h2 e2 l2 n2).1
            simp only [if_pos e1, if_neg e2]
            omega
          · by_cases e2 : s2.2.1 = d
            · have := (hlt' s1 h1 e1 l1 n1).1
              simp only [if_neg e1, if_pos e2]
              omega
            · simp only [if_neg e1, if_neg e2]
              exact I.apart s1 h1 s2 h2 (hlt' s1 h1 e1 l1 n1).2 (hlt' s2 h2 e2 l2 n2).2 n1 n2 hne
    simp only [wpList, hw, if_true] at hmain
    rcases hmain with hmain | ⟨_, a, w, hx⟩
    · left
      exact wp_onlyNormal (fun a w h => h) hmain
    · exact hx.elim
  · intro listed a W hfin ⟨f, g, I⟩
    simp only [dagFin, Bool.and_eq_true, List.all_eq_true] at hfin
    have hact := I.act
    rw [putsL_S a0 g f l (fun s hs => I.vals s hs (hfin.1 s hs))] at hact
    subst hact
    have hO := rows_own g hS I.grown l hd (fun s hs => I.rows s hs (hfin.1 s hs)) (fun s hs s' hs' => I.apart s hs s' hs' (hfin.1 s hs) (hfin.1 s' hs'))
    have := wpAny_mix hs (rest.map fun i => (i, false)) listed _ W (fun hp => by simp at hp) hfin.2 (h.2 g W I.grown.size hO)
    rw [List.length_map] at this
    exact this
  · refine ⟨f0, fun _ => 0, hf0, grownBy_refl _ _, ?_, ?_, ?_⟩
    · intro s hs hl; have := List.all_eq_true.1 h0 s hs; rw [hl] at this; cases this
    · intro s hs hl; have := List.all_eq_true.1 h0 s hs; rw [hl] at this; cases this
    · intro s hs _ _ hl; have := List.all_eq_true.1 h0 s hs; rw [hl] at this; cases this
theorem putsL_self (a : Act) : ∀ l : Dag, putsL a (fun d => a.tmps.getD d undef) l = a
  | [] => rfl
  | (i, d, k) :: r => by
    show (putsL a _ r).put (some d) (a.tmps.getD d undef) = a
    rw [putsL_self a r]
    have ht : a.tmps.setIfInBounds d (a.tmps.getD d undef) = a.tmps := by
      ext1
      · simp
      · rename_i j h1 h2
        by_cases hj : d = j
        · subst hj; simp [h2]
        · exact Array.getElem_setIfInBounds_ne _ hj
    show ({ a with tmps := a.tmps.setIfInBounds d (a.tmps.getD d undef) } : Act) = a
    rw [ht]
theorem wpAny_dagPre {Kn : Act → World → Prop} {w0 : World} {L0 : List Ent} {l : Dag} {rest : List Nat} (hs : Region.noSelect ops = true) (hd : (l.map (·.2.1)).Nodup) (hi : (l.map (·.1)).Nodup) :
    ∀ (pre : List Nat) (listed : Array Bool) (a : Act) (w : World), Own w0 w L0 → dagPre md ops keeps l rest pre listed = true →
    wpMix P ops (fun W => Own w0 W L0) keeps (DagGoal P ops (fun W => Own w0 W L0) keeps Kn w0 L0 l rest) (pre.map fun i => (i, true)) a w → wpAnyC P md ops (fun W => Own w0 W L0) keeps Kn (pre.length + (l.length + rest.length)) listed a w
  | [], listed, a, w, hS, hB, h => by
    rw [List.length_nil, Nat.zero_add]
    simp only [dagPre, Bool.and_eq_true] at hB
    exact wpAny_dagGoal hs hd hi hS hB.1 hB.2 h ⟨_, (putsL_self a l).symm⟩
  | i :: r, listed, a, w, hS, hB, h => by
    simp only [dagPre, Bool.and_eq_true] at hB
    obtain ⟨⟨⟨hr, hf⟩, hw⟩, hB'⟩ := hB
    obtain ⟨o, v, ho, hy, hK⟩ := h
    rw [List.length_cons, show r.length + 1 + (l.length + rest.length) = (r.length + (l.length + rest.length)) + 1 by omega]
    exact wpAny_first ho (Region.noSelect_spec hs) _ listed a w (Region.free_spec ho hf) (waitsAll_spec hw) hS (by simpa using hr) hy (wpAny_dagPre hs hd hi r _ _ w hS hB' hK)
theorem wp_region_dag {id : Nat} {Q : Exit → Act → World → Prop} {a : Act} {w : World} {w0 : World} {L0 : List Ent} (keeps : Nat → Bool) (pre : List Nat) (l : Dag) (rest : List Nat) (hm : P.follows .mixedOrders = true)
    (hd : (l.map (·.2.1)).Nodup) (hi : (l.map (·.1)).Nodup) (hS : Own w0 w.drew L0)
    (hB : (Region.noSelect ops && pre.length + (l.length + rest.length) == ops.size && dagPre .any ops keeps l rest pre (Array.replicate ops.size false)) = true)
    (h : wpMix P ops (fun W => Own w0 W L0) keeps (DagGoal P ops (fun W => Own w0 W L0) keeps (Q .normal) w0 L0 l rest) (pre.map fun i => (i, true)) a w.drew) : (Code.region id ops true).wp P Q a w := by
  simp only [Bool.and_eq_true, beq_iff_eq] at hB
  refine wp_region_any hm (wpAny_ofC (C := fun W => Own w0 W L0) (keeps := keeps) _ _ _ _ ?_)
  rw [← hB.1.2]
  refine wpAny_dagPre hB.1.1 hd hi pre _ a _ hS ?_ h
  rw [hB.1.2]; exact hB.2
end
end Go.Proofs.Ytpohjldhbaalbaa
