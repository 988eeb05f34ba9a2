/- A look uses up: the bound that keeps the queue short, and that a walk ends. -/
import Derived.Test.YtnlnkojcbjaeeaaStep18
namespace Go.Proofs.Ytnlnkojcbjaeeaa
set_option linter.unusedVariables false
set_option linter.unusedSimpArgs false
set_option linter.unusedSectionVars false
open Go.RowKit
set_option linter.unusedVariables false
def owed (ns : Nodes) (blk : List Dg) : Nat := (ns.map (fun p => if p.1 ∈ blk then 0 else p.2.length)).sum
def pot (ns : Nodes) (m : Mk) : Nat := m.1.length + owed ns m.2
theorem owed_mono (blk : List Dg) (d : Dg) : ∀ ns : Nodes, owed ns (blk ++ [d]) ≤ owed ns blk
  | [] => Nat.le_refl _
  | p :: ns => by
    have ih := owed_mono blk d ns
    unfold owed at *
    simp only [List.map_cons, List.sum_cons, List.mem_append, List.mem_singleton]
    by_cases h1 : p.1 ∈ blk
    · simp only [h1, true_or, if_true]; exact Nat.add_le_add_left (by simpa using ih) _
    · by_cases h2 : p.1 = d
      · simp only [h1, h2, or_true, if_true]
        simp only [List.mem_append, List.mem_singleton] at ih
        omega
      · simp only [h1, h2, or_self, if_false]
        simp only [List.mem_append, List.mem_singleton] at ih
        omega
theorem owed_new (blk : List Dg) (d : Dg) (hd : d ∉ blk) : ∀ (ns : Nodes) (l : List Dg), edgesOf ns d = some l → owed ns (blk ++ [d]) + l.length ≤ owed ns blk
  | [], l, h => by simp [edgesOf] at h
  | p :: ns, l, h => by
    by_cases h2 : p.1 = d
    · have e1 : p.2 = l := by simpa [edgesOf, h2] using h
      have := owed_mono blk d ns
      unfold owed at *
      simp only [List.map_cons, List.sum_cons, List.mem_append, List.mem_singleton, h2, hd, or_true, if_true, if_false, e1]
      simp only [List.mem_append, List.mem_singleton] at this
      omega
    · have h' : edgesOf ns d = some l := by
        unfold edgesOf at h ⊢
        rwa [List.find?_cons_of_neg (by simpa using h2)] at h
      have ih := owed_new blk d hd ns l h'
      unfold owed at *
      simp only [List.map_cons, List.sum_cons, List.mem_append, List.mem_singleton, h2, or_false]
      simp only [List.mem_append, List.mem_singleton] at ih
      omega
theorem lookM_none (ns : Nodes) (d : Dg) (g blk : List Dg) (h : edgesOf ns d = none) : lookM ns (d :: g, blk) = (g, blk) := by simp [lookM, h]
theorem lookM_old (ns : Nodes) (d : Dg) (g blk : List Dg) (hd : d ∈ blk) : lookM ns (d :: g, blk) = (g, blk) := by
  cases h : edgesOf ns d with
  | none => simp [lookM, h]
  | some l => simp [lookM, h, hd]
theorem lookM_new (ns : Nodes) (d : Dg) (g blk l : List Dg) (h : edgesOf ns d = some l) (hd : d ∉ blk) : lookM ns (d :: g, blk) = (g ++ grayEdges (blk ++ [d]) l, blk ++ [d]) := by simp [lookM, h, hd]
theorem pot_look (ns : Nodes) (d : Dg) (g blk : List Dg) : pot ns (lookM ns (d :: g, blk)) + 1 ≤ pot ns (d :: g, blk) := by
  by_cases hd : d ∈ blk
  · rw [lookM_old ns d g blk hd]; simp only [pot, List.length_cons]; omega
  · cases h : edgesOf ns d with
    | none => rw [lookM_none ns d g blk h]; simp only [pot, List.length_cons]; omega
    | some l =>
      rw [lookM_new ns d g blk l h hd]
      have h1 := owed_new blk d hd ns l h
      have h2 : (grayEdges (blk ++ [d]) l).length ≤ l.length := List.length_filter_le _ _
      simp only [pot, List.length_append, List.length_cons]
      omega
theorem pot_step (ns : Nodes) : ∀ (n : Nat) (m : Mk), pot ns (stepM ns n m) ≤ pot ns m
  | 0, m => Nat.le_refl _
  | n + 1, ([], blk) => by rw [stepM_nil]; exact Nat.le_refl _
  | n + 1, (d :: g, blk) => by
    have h1 := pot_look ns d g blk
    have h2 := pot_step ns n (lookM ns (d :: g, blk))
    show pot ns (stepM ns n (lookM ns (d :: g, blk))) ≤ _
    omega
/-- so many looks leave nothing -/
theorem step_ends (ns : Nodes) : ∀ (n : Nat) (m : Mk), pot ns m ≤ n → (stepM ns n m).1 = []
  | 0, m, h => by
    unfold stepM
    have : m.1.length = 0 := by unfold pot at h; omega
    exact List.eq_nil_of_length_eq_zero this
  | n + 1, ([], blk), h => by rw [stepM_nil]
  | n + 1, (d :: g, blk), h => step_ends ns n _ (by have := pot_look ns d g blk; omega)
end Go.Proofs.Ytnlnkojcbjaeeaa
