/- Plain law: while the graph grows, what is marked or gray covers all edges of what is marked. -/
import Derived.Test.YtnlnkojcbjaeeaaSeed18
namespace Go.Proofs.Ytnlnkojcbjaeeaa
set_option linter.unusedVariables false
set_option linter.unusedSimpArgs false
set_option linter.unusedSectionVars false
open Go.RowKit
set_option linter.unusedVariables false
def Tri (ns : Nodes) (roots : List Dg) (m : Mk) : Prop :=
  (∀ x ∈ m.2, ∀ l, edgesOf ns x = some l → ∀ y ∈ l, y ∈ m.2 ∨ y ∈ m.1 ∨ edgesOf ns y = none) ∧ (∀ r ∈ roots, r ∈ m.2 ∨ r ∈ m.1 ∨ edgesOf ns r = none)
theorem tri_start (ns : Nodes) (roots : List Dg) : Tri ns roots (roots, []) := ⟨fun x hx => (by cases hx), fun r hr => .inr (.inl hr)⟩
theorem tri_look (ns : Nodes) (roots : List Dg) (m : Mk) (h : Tri ns roots m) : Tri ns roots (lookM ns m) := by
  obtain ⟨g, b⟩ := m
  cases g with
  | nil => exact h
  | cons d g =>
    obtain ⟨h1, h2⟩ := h
    by_cases hd : d ∈ b
    · rw [lookM_old ns d g b hd]
      have key : ∀ y, y ∈ b ∨ y ∈ d :: g ∨ edgesOf ns y = none → y ∈ b ∨ y ∈ g ∨ edgesOf ns y = none := by
        intro y hy
        rcases hy with hy | hy | hy
        · exact .inl hy
        · rcases List.mem_cons.1 hy with rfl | hy
          · exact .inl hd
          · exact .inr (.inl hy)
        · exact .inr (.inr hy)
      exact ⟨fun x hx l hl y hy => key y (h1 x hx l hl y hy), fun r hr => key r (h2 r hr)⟩
    · cases he : edgesOf ns d with
      | none =>
        rw [lookM_none ns d g b he]
        have key : ∀ y, y ∈ b ∨ y ∈ d :: g ∨ edgesOf ns y = none → y ∈ b ∨ y ∈ g ∨ edgesOf ns y = none := by
          intro y hy
          rcases hy with hy | hy | hy
          · exact .inl hy
          · rcases List.mem_cons.1 hy with rfl | hy
            · exact .inr (.inr he)
            · exact .inr (.inl hy)
          · exact .inr (.inr hy)
        exact ⟨fun x hx l hl y hy => key y (h1 x hx l hl y hy), fun r hr => key r (h2 r hr)⟩
      | some le =>
        rw [lookM_new ns d g b le he hd]
        have key : ∀ y, y ∈ b ∨ y ∈ d :: g ∨ edgesOf ns y = none → y ∈ b ++ [d] ∨ y ∈ g ++ grayEdges (b ++ [d]) le ∨ edgesOf ns y = none := by
          intro y hy
          rcases hy with hy | hy | hy
          · exact .inl (List.mem_append_left _ hy)
          · rcases List.mem_cons.1 hy with rfl | hy
            · exact .inl (by simp)
            · exact .inr (.inl (List.mem_append_left _ hy))
          · exact .inr (.inr hy)
        refine ⟨fun x hx l hl y hy => ?_, fun r hr => key r (h2 r hr)⟩
        rcases List.mem_append.1 hx with hx | hx
        · exact key y (h1 x hx l hl y hy)
        · rw [List.mem_singleton.1 hx, he] at hl
          cases hl
          by_cases hyb : y ∈ b ++ [d]
          · exact .inl hyb
          · refine .inr (.inl (List.mem_append_right _ ?_))
            unfold grayEdges
            exact List.mem_filter.2 ⟨hy, by simpa using hyb⟩
theorem tri_step (ns : Nodes) (roots : List Dg) : ∀ (n : Nat) (m : Mk), Tri ns roots m → Tri ns roots (stepM ns n m)
  | 0, _, h => h
  | n + 1, m, h => tri_step ns roots n _ (tri_look ns roots m h)
theorem edgesOf_put_ne {ns : Nodes} {d x : Dg} (to : List Dg) (h : x ≠ d) : edgesOf (putN ns d to) x = edgesOf ns x := by
  unfold putN
  split
  · unfold edgesOf
    rename_i hs
    clear hs
    induction ns with
    | nil => rfl
    | cons p ns ih =>
      rw [List.map_cons]
      by_cases hp : p.1 = d
      · rw [if_pos hp, List.find?_cons_of_neg (by simpa using Ne.symm h), List.find?_cons_of_neg (by rw [hp]; simpa using Ne.symm h), ih]
      · rw [if_neg hp]
        by_cases hx : p.1 = x
        · rw [List.find?_cons_of_pos (by simpa using hx), List.find?_cons_of_pos (by simpa using hx)]
        · rw [List.find?_cons_of_neg (by simpa using hx), List.find?_cons_of_neg (by simpa using hx), ih]
  · unfold edgesOf
    rw [List.find?_append]
    have : List.find? (fun p => p.1 == x) [(d, to)] = none := by rw [List.find?_cons_of_neg (by simpa using Ne.symm h)]; rfl
    rw [this]
    cases List.find? (fun p => p.1 == x) ns <;> rfl
theorem tri_put (ns : Nodes) (roots : List Dg) (g b : List Dg) (d : Dg) (to : List Dg) (h : Tri ns roots (g, b)) : Tri (putN ns d to) roots (g ++ [d], b.filter (fun x => x != d)) := by
  obtain ⟨h1, h2⟩ := h
  have key : ∀ y, y ∈ b ∨ y ∈ g ∨ edgesOf ns y = none → y ∈ b.filter (fun x => x != d) ∨ y ∈ g ++ [d] ∨ edgesOf (putN ns d to) y = none := by
    intro y hy
    by_cases hyd : y = d
    · exact .inr (.inl (by simp [hyd]))
    · rcases hy with hy | hy | hy
      · exact .inl (List.mem_filter.2 ⟨hy, by simpa using hyd⟩)
      · exact .inr (.inl (List.mem_append_left _ hy))
      · exact .inr (.inr (by rw [edgesOf_put_ne to hyd]; exact hy))
  refine ⟨fun x hx l hl y hy => ?_, fun r hr => key r (h2 r hr)⟩
  obtain ⟨hx1, hx2⟩ := List.mem_filter.1 hx
  have hxd : x ≠ d := by simpa using hx2
  rw [edgesOf_put_ne to hxd] at hl
  exact key y (h1 x hx1 l hl y hy)
theorem sound_step (ns : Nodes) (b : List Dg) (hc : ∀ x ∈ b, ∀ l, edgesOf ns x = some l → ∀ y ∈ l, y ∈ b ∨ edgesOf ns y = none) : ∀ (n : Nat) (m : Mk), (∀ y ∈ m.1, y ∈ b ∨ edgesOf ns y = none) → (∀ x ∈ m.2, x ∈ b) → ∀ x ∈ (stepM ns n m).2, x ∈ b
  | 0, m, _, h2 => h2
  | n + 1, (g, k), h1, h2 => by
    refine sound_step ns b hc n (lookM ns (g, k)) ?_ ?_
    · cases g with
      | nil => exact fun y hy => by cases hy
      | cons d g =>
        have hg : ∀ y ∈ g, y ∈ b ∨ edgesOf ns y = none := fun y hy => h1 y (by simp [hy])
        by_cases hd : d ∈ k
        · rw [lookM_old ns d g k hd]; exact hg
        · cases he : edgesOf ns d with
          | none => rw [lookM_none ns d g k he]; exact hg
          | some l =>
            rw [lookM_new ns d g k l he hd]
            intro y hy
            rcases List.mem_append.1 hy with hy | hy
            · exact hg y hy
            · have hyl : y ∈ l := (List.mem_filter.1 hy).1
              rcases h1 d (by simp) with hdb | hdb
              · exact hc d hdb l he y hyl
              · rw [he] at hdb; cases hdb
    · cases g with
      | nil => exact h2
      | cons d g =>
        by_cases hd : d ∈ k
        · rw [lookM_old ns d g k hd]; exact h2
        · cases he : edgesOf ns d with
          | none => rw [lookM_none ns d g k he]; exact h2
          | some l =>
            rw [lookM_new ns d g k l he hd]
            intro x hx
            rcases List.mem_append.1 hx with hx | hx
            · exact h2 x hx
            · rw [List.mem_singleton.1 hx]
              rcases h1 d (by simp) with hdb | hdb
              · exact hdb
              · rw [he] at hdb; cases hdb
/-- at the end all is marked to which one comes -/
theorem tri_end {ns : Nodes} {roots b : List Dg} (h : Tri ns roots ([], b)) : ∀ x ∈ reachB ns roots, x ∈ b := by
  obtain ⟨h1, h2⟩ := h
  have fix : ∀ y, (y ∈ b ∨ y ∈ ([] : List Dg) ∨ edgesOf ns y = none) → y ∈ b ∨ edgesOf ns y = none := by
    intro y hy
    rcases hy with hy | hy | hy
    · exact .inl hy
    · cases hy
    · exact .inr hy
  exact sound_step ns b (fun x hx l hl y hy => fix y (h1 x hx l hl y hy)) _ (roots, []) (fun y hy => fix y (h2 y hy)) (fun x hx => by cases hx)
theorem look_gray {ns : Nodes} (h : Low ns) (m : Mk) : (lookM ns m).1.length ≤ m.1.length + 12 := by
  obtain ⟨g, b⟩ := m
  cases g with
  | nil => simp [lookM]
  | cons d g =>
    by_cases hd : d ∈ b
    · rw [lookM_old ns d g b hd]; simp only [List.length_cons]; omega
    · cases he : edgesOf ns d with
      | none => rw [lookM_none ns d g b he]; simp only [List.length_cons]; omega
      | some l =>
        rw [lookM_new ns d g b l he hd]
        have h1 : (grayEdges (b ++ [d]) l).length ≤ l.length := List.length_filter_le _ _
        obtain ⟨p, hp, hpl⟩ := Option.map_eq_some_iff.1 (show (ns.find? (fun p => p.1 == d)).map (·.2) = some l from he)
        have h2 := h p (List.mem_of_find?_eq_some hp)
        rw [hpl] at h2
        simp only [List.length_append, List.length_cons]
        omega
theorem step_gray {ns : Nodes} (h : Low ns) : ∀ (n : Nat) (m : Mk), (stepM ns n m).1.length ≤ m.1.length + 12 * n
  | 0, m => by simp [stepM]
  | n + 1, m => by
    have h1 := step_gray h n (lookM ns m)
    have h2 := look_gray h m
    show (stepM ns n (lookM ns m)).1.length ≤ _
    omega
theorem keysOf_del (blk : KV) (d : Dg) : keysOf (delKV blk d) = (keysOf blk).filter (fun x => x != d) := by
  unfold keysOf delKV
  rw [List.filter_map]
  rfl
theorem Units.del {blk : KV} (h : Units blk) (d : Dg) : Units (delKV blk d) := fun p hp => h p (List.mem_filter.1 hp).1
end Go.Proofs.Ytnlnkojcbjaeeaa
