/- Plain laws of the marker's steps: that they end, and where. -/
import Derived.Test.YtnlnkojcbjaeeaaPot18
namespace Go.Proofs.Ytnlnkojcbjaeeaa
set_option linter.unusedVariables false
set_option linter.unusedSimpArgs false
set_option linter.unusedSectionVars false
open Go.RowKit
set_option linter.unusedVariables false
theorem stepM_add (ns : Nodes) : ∀ (a b : Nat) (m : Mk), stepM ns (a + b) m = stepM ns b (stepM ns a m)
  | 0, b, m => by rw [Nat.zero_add]; rfl
  | a + 1, b, m => by rw [Nat.add_right_comm]; exact stepM_add ns a b (lookM ns m)
theorem stepM_stay (ns : Nodes) (n : Nat) (m : Mk) (h : m.1 = []) : stepM ns n m = m := by
  obtain ⟨g, b⟩ := m
  simp only at h
  subst h
  exact stepM_nil ns b n
/-- the black sums at the walk's end -/
def reachB (ns : Nodes) (roots : List Dg) : List Dg := (stepM ns (pot ns (roots, [])) (roots, [])).2
theorem stepM_end (ns : Nodes) (m : Mk) (n : Nat) (h : (stepM ns n m).1 = []) : stepM ns n m = stepM ns (pot ns m) m := by
  have h2 := step_ends ns (pot ns m) m (Nat.le_refl _)
  have e1 := stepM_add ns n (pot ns m) m
  have e2 := stepM_add ns (pot ns m) n m
  rw [stepM_stay ns _ _ h] at e1
  rw [stepM_stay ns _ _ h2, Nat.add_comm] at e2
  rw [← e1, e2]
theorem pot_step_lt (ns : Nodes) (n : Nat) (m : Mk) (hn : 0 < n) (h : (stepM ns n m).1 ≠ []) : pot ns (stepM ns n m) + 1 ≤ pot ns m := by
  obtain ⟨g, b⟩ := m
  cases g with
  | nil => exact absurd (by rw [stepM_nil]) h
  | cons d g =>
    obtain ⟨k, rfl⟩ : ∃ k, n = k + 1 := ⟨n - 1, by omega⟩
    have h1 := pot_look ns d g b
    have h2 := pot_step ns k (lookM ns (d :: g, b))
    show pot ns (stepM ns k (lookM ns (d :: g, b))) + 1 ≤ _
    omega
theorem look_black (ns : Nodes) (m : Mk) (h : ∀ x ∈ m.2, (edgesOf ns x).isSome = true) : ∀ x ∈ (lookM ns m).2, (edgesOf ns x).isSome = true := by
  obtain ⟨g, b⟩ := m
  cases g with
  | nil => exact h
  | cons d g =>
    by_cases hd : d ∈ b
    · rw [lookM_old ns d g b hd]; exact h
    · cases he : edgesOf ns d with
      | none => rw [lookM_none ns d g b he]; exact h
      | some l =>
        rw [lookM_new ns d g b l he hd]
        intro x hx
        rcases List.mem_append.1 hx with hx | hx
        · exact h x hx
        · rw [List.mem_singleton.1 hx, he]; rfl
theorem step_black (ns : Nodes) : ∀ (n : Nat) (m : Mk), (∀ x ∈ m.2, (edgesOf ns x).isSome = true) → ∀ x ∈ (stepM ns n m).2, (edgesOf ns x).isSome = true
  | 0, m, h => h
  | n + 1, m, h => step_black ns n (lookM ns m) (look_black ns m h)
theorem edgesOf_mem {ns : Nodes} {x : Dg} (h : (edgesOf ns x).isSome = true) : x ∈ ns.map (·.1) := by
  obtain ⟨l, hl⟩ := Option.isSome_iff_exists.1 h
  obtain ⟨p, hp, _⟩ := Option.map_eq_some_iff.1 (show (ns.find? (fun p => p.1 == x)).map (·.2) = some l from hl)
  have h1 := List.find?_some hp
  have h2 : p.1 = x := by simpa using h1
  rw [← h2]
  exact List.mem_map.2 ⟨p, List.mem_of_find?_eq_some hp, rfl⟩
theorem nodup_len : ∀ {l m : List Dg}, l.Nodup → (∀ x ∈ l, x ∈ m) → l.length ≤ m.length
  | [], m, _, _ => Nat.zero_le _
  | x :: l, m, hn, hs => by
    rw [List.nodup_cons] at hn
    have hx := hs x (by simp)
    have ih := nodup_len (l := l) (m := m.erase x) hn.2 (fun y hy => (List.mem_erase_of_ne (show y ≠ x from fun e => hn.1 (by rw [← e]; exact hy))).2 (hs y (by simp [hy])))
    rw [List.length_erase_of_mem hx] at ih
    have : 0 < m.length := List.length_pos_of_mem hx
    simp only [List.length_cons]
    omega
end Go.Proofs.Ytnlnkojcbjaeeaa
