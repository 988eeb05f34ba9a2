/- What a step of the marker does, as plain lists. -/
import Derived.Test.YtnlnkojcbjaeeaaNode18
namespace Go.Proofs.Ytnlnkojcbjaeeaa
set_option linter.unusedVariables false
set_option linter.unusedSimpArgs false
set_option linter.unusedSectionVars false
open Go.RowKit
set_option linter.unusedVariables false
/-- a graph as the document's list: nodes and their edges -/
abbrev Nodes := List (Dg × List Dg)
def edgesOf (ns : Nodes) (d : Dg) : Option (List Dg) := (ns.find? (fun p => p.1 == d)).map (·.2)
inductive All2 {α β : Type} (R : α → β → Prop) : List α → List β → Prop
  | nil : All2 R [] []
  | cons {a : α} {b : β} {l : List α} {m : List β} (h : R a b) (t : All2 R l m) : All2 R (a :: l) (b :: m)
theorem All2.map {α β γ δ : Type} {R : α → β → Prop} {S : γ → δ → Prop} {f : α → γ} {g : β → δ} {l : List α} {m : List β} (h : All2 R l m) (hf : ∀ a b, R a b → S (f a) (g b)) : All2 S (l.map f) (m.map g) := by
  induction h with
  | nil => exact .nil
  | cons hp _ ih => exact .cons (hf _ _ hp) ih
theorem All2.snoc {α β : Type} {R : α → β → Prop} {l : List α} {m : List β} (h : All2 R l m) {a : α} {b : β} (hab : R a b) : All2 R (l ++ [a]) (m ++ [b]) := by
  induction h with
  | nil => exact .cons hab .nil
  | cons hp _ ih => exact .cons hp ih
/-- the block of the map holds the slices of these edges -/
def EdgesIn (es : List Ent) (kv : KV) (ns : Nodes) : Prop := All2 (fun (p : Dg × Value) (n : Dg × List Dg) => p.1 = n.1 ∧ ∃ base, rowsE base 30 p.2 n.2 ∈ es) kv ns
theorem EdgesIn.mono {es es' : List Ent} {kv : KV} {ns : Nodes} (h : EdgesIn es kv ns) (hs : ∀ e ∈ es, e ∈ es') : EdgesIn es' kv ns := by
  induction h with
  | nil => exact .nil
  | cons hp _ ih => exact .cons ⟨hp.1, hp.2.imp fun _ hb => hs _ hb⟩ ih
theorem EdgesIn.has {es : List Ent} {kv : KV} {ns : Nodes} (h : EdgesIn es kv ns) (d : Dg) : hasKV kv d = (edgesOf ns d).isSome := by
  induction h with
  | nil => rfl
  | @cons p n kv ns hp _ ih =>
    unfold hasKV edgesOf at *
    by_cases hd : n.1 = d
    · simp [hp.1, hd]
    · have : (n.1 == d) = false := by simpa using hd
      rw [List.any_cons, hp.1, this, Bool.false_or, ih, List.find?_cons_of_neg (by simpa using hd)]
theorem EdgesIn.look {es : List Ent} {kv : KV} {ns : Nodes} (h : EdgesIn es kv ns) (d : Dg) {l : List Dg} (hl : edgesOf ns d = some l) : ∃ v base, lookKV kv d = some v ∧ rowsE base 30 v l ∈ es := by
  induction h with
  | nil => simp [edgesOf] at hl
  | @cons p n kv ns hp _ ih =>
    by_cases hd : n.1 = d
    · have e1 : n.2 = l := by simpa [edgesOf, hd] using hl
      obtain ⟨base, hb⟩ := hp.2
      exact ⟨p.2, base, by simp [lookKV, hp.1, hd], by rw [← e1]; exact hb⟩
    · have e2 : edgesOf ns d = some l := by
        unfold edgesOf at hl ⊢
        rwa [List.find?_cons_of_neg (by simpa using hd)] at hl
      obtain ⟨v, base, h1, h2⟩ := ih e2
      refine ⟨v, base, ?_, h2⟩
      unfold lookKV at h1 ⊢
      rwa [List.find?_cons_of_neg (by simpa [hp.1] using hd)]
def putN (ns : Nodes) (d : Dg) (l : List Dg) : Nodes := if (edgesOf ns d).isSome then ns.map (fun p => if p.1 = d then (d, l) else p) else ns ++ [(d, l)]
def delN (ns : Nodes) (d : Dg) : Nodes := ns.filter (fun p => p.1 != d)
theorem EdgesIn.put {es : List Ent} {kv : KV} {ns : Nodes} (h : EdgesIn es kv ns) (d : Dg) (l : List Dg) (v : Value) (hv : ∃ base, rowsE base 30 v l ∈ es) : EdgesIn es (putKV kv d v) (putN ns d l) := by
  have hh := h.has d
  unfold putKV putN
  rw [hh]
  split
  · refine h.map fun p n hp => ?_
    by_cases hd : n.1 = d
    · simp only [hp.1.trans hd, hd, if_true]; exact ⟨trivial, hv⟩
    · have hd2 : p.1 ≠ d := by rw [hp.1]; exact hd
      simp only [hd, hd2, if_false]; exact hp
  · exact h.snoc ⟨rfl, hv⟩
theorem EdgesIn.del {es : List Ent} {kv : KV} {ns : Nodes} (h : EdgesIn es kv ns) (d : Dg) : EdgesIn es (delKV kv d) (delN ns d) := by
  unfold delKV delN
  induction h with
  | nil => exact .nil
  | @cons p n kv ns hp _ ih =>
    by_cases hd : n.1 = d
    · rw [List.filter_cons_of_neg (by simp [hp.1, hd]), List.filter_cons_of_neg (by simp [hd])]; exact ih
    · rw [List.filter_cons_of_pos (by simpa [hp.1] using hd), List.filter_cons_of_pos (by simpa using hd)]; exact .cons hp ih
/-- the marker: gray sums, black sums -/
abbrev Mk := List Dg × List Dg
def grayEdges (blk : List Dg) (l : List Dg) : List Dg := l.filter (fun x => decide (x ∉ blk))
def lookM (ns : Nodes) : Mk → Mk
  | ([], blk) => ([], blk)
  | (d :: g, blk) => match edgesOf ns d with
    | none => (g, blk)
    | some l => if d ∈ blk then (g, blk) else (g ++ grayEdges (blk ++ [d]) l, blk ++ [d])
def stepM (ns : Nodes) : Nat → Mk → Mk
  | 0, m => m
  | n + 1, m => stepM ns n (lookM ns m)
theorem stepM_nil (ns : Nodes) (blk : List Dg) : ∀ n, stepM ns n ([], blk) = ([], blk)
  | 0 => rfl
  | n + 1 => by unfold stepM lookM; exact stepM_nil ns blk n
end Go.Proofs.Ytnlnkojcbjaeeaa
