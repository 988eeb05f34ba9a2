/- The graph that the laws lay; bounds. -/
import Derived.Test.YtnlnkojcbjaeeaaAwake18
import Derived.Test.YtnlnkojcbjaeeaaNodesL18
namespace Go.Proofs.Ytnlnkojcbjaeeaa
set_option linter.unusedVariables false
set_option linter.unusedSimpArgs false
set_option linter.unusedSectionVars false
open Go.RowKit
set_option linter.unusedVariables false
def seedK (E : List (List UInt8)) : Nat → Nodes
  | 0 => []
  | k + 1 => putN (seedK E k) (nodeL (UInt8.ofNat k)) (nodesL (E.getD k []))
def Low (ns : Nodes) : Prop := ∀ p ∈ ns, p.2.length ≤ 12
theorem nodesL_len (l : List UInt8) : (nodesL l).length ≤ 12 := by unfold nodesL; simp; omega
theorem nodesL_32 (l : List UInt8) : L32 (nodesL l) := nodes32 _
theorem putN_len (ns : Nodes) (d : Dg) (l : List Dg) : (putN ns d l).length ≤ ns.length + 1 := by
  unfold putN
  split
  · simp
  · simp
theorem putN_low {ns : Nodes} (h : Low ns) (d : Dg) (l : List Dg) (hl : l.length ≤ 12) : Low (putN ns d l) := by
  unfold putN
  split
  · intro p hp
    obtain ⟨q, hq, rfl⟩ := List.mem_map.1 hp
    by_cases hd : q.1 = d
    · rw [if_pos hd]; exact hl
    · rw [if_neg hd]; exact h q hq
  · intro p hp
    rcases List.mem_append.1 hp with hp | hp
    · exact h p hp
    · rw [List.mem_singleton.1 hp]; exact hl
theorem seed_low (E : List (List UInt8)) : ∀ k, Low (seedK E k)
  | 0 => fun p hp => by cases hp
  | k + 1 => putN_low (seed_low E k) _ _ (nodesL_len _)
theorem seed_len (E : List (List UInt8)) : ∀ k, (seedK E k).length ≤ k
  | 0 => Nat.le_refl _
  | k + 1 => Nat.le_trans (putN_len _ _ _) (Nat.succ_le_succ (seed_len E k))
theorem Low.wide {ns : Nodes} (h : Low ns) : ∀ p ∈ ns, p.2.length ≤ 4096 := fun p hp => Nat.le_trans (h p hp) (by omega)
theorem owed_le {ns : Nodes} (h : Low ns) (blk : List Dg) : owed ns blk ≤ 12 * ns.length := by
  induction ns with
  | nil => simp [owed]
  | cons p ns ih =>
    have := ih (fun q hq => h q (by simp [hq]))
    have h0 := h p (by simp)
    unfold owed at *
    simp only [List.map_cons, List.sum_cons, List.length_cons]
    split <;> omega
theorem pot_le {ns : Nodes} (h : Low ns) (g blk : List Dg) : pot ns (g, blk) ≤ g.length + 12 * ns.length := by
  have := owed_le h blk
  unfold pot
  simp only
  omega
theorem n8_of (k : Nat) (h : k < 256) : n8 (UInt8.ofNat k) = (k : Int) := by
  unfold n8
  rw [UInt8.toNat_ofNat', Nat.mod_eq_of_lt (by omega)]
theorem node_of (k : Nat) (h : k < 256) (W : World) : Calls Try.prog 10 #[.int .u8 (k : Int)] W fun e w' => e = .returned (dgv (nodeL (UInt8.ofNat k))) ∧ W.grownBy w' none := by
  have := node_any (UInt8.ofNat k) W
  rwa [n8_of k h] at this
theorem Rising.nodup {R : List Dg} (h : Rising R) : R.Nodup := by
  refine List.Pairwise.imp ?_ h
  intro x y hxy e
  subst e
  rw [cmpL_self] at hxy
  omega
theorem reach_len {ns : Nodes} {roots R : List Dg} (hp : R.Perm (reachB ns roots)) (hr : Rising R) : R.length ≤ ns.length := by
  have h1 := nodup_len (m := ns.map (·.1)) hr.nodup (fun x hx => edgesOf_mem (step_black ns (pot ns (roots, [])) (roots, []) (by simp) x (hp.mem_iff.1 hx)))
  simpa using h1
theorem Own.rot43 {w0 w : World} {L : List Ent} {a b c d e f g : Ent} (h : Own w0 w (a :: b :: c :: d :: e :: f :: g :: L)) : Own w0 w (e :: g :: f :: a :: b :: c :: d :: L) :=
  (h.perm (by
    have := (List.perm_append_comm (l₁ := [a, b, c, d]) (l₂ := [e, f, g])).append_right L
    simpa using this : (a :: b :: c :: d :: e :: f :: g :: L).Perm (e :: f :: g :: a :: b :: c :: d :: L))).swap12
theorem mem_take_getD {R : List Dg} {j : Nat} (hj : j < R.length) (d : Dg) : decide (d ∈ R.take (j + 1)) = (decide (d ∈ R.take j) || decide (R.getD j [] = d)) := by
  have h := mem_take_succ R d j hj
  rw [Bool.eq_iff_iff]
  simp only [decide_eq_true_eq, Bool.or_eq_true]
  rw [h]
  constructor
  · intro h
    rcases h with h | h
    · exact .inl h
    · exact .inr h.symm
  · intro h
    rcases h with h | h
    · exact .inl h
    · exact .inr h.symm
theorem put_st2 (w0 w : World) (G M : Nat) (kv : KV) (ns : Nodes) (L es : List Ent) (d : Dg) (A : Option Addr) (c n : Nat) (to : List Dg) (hS : Own w0 w (gE G M :: mapE M kv :: L)) (he : EdgesIn es kv ns) (hd : d.length = 32) (hn : to.length = n) (hto : Rows32 w A c to) (hl : to.length ≤ 4096) :
    Calls Try.prog 9 #[.pointer (some ⟨G, 0, none⟩), dgv d, .slice A n c] w fun e w' => e = .returned (.int .i64 0) ∧ ∃ kv' v, EdgesIn (rowsE w0.heap.size 30 v to :: es) kv' (putN ns d to) ∧ Own w0 w' (gE G M :: mapE M kv' :: rowsE w0.heap.size 30 v to :: L) := by
  subst hn
  refine (put_any w0 w G M kv L d A c to hS hd hto hl).mono ?_
  rintro e w' ⟨rfl, v, h⟩
  exact ⟨rfl, _, v, he.more.put d to v ⟨w0.heap.size, by simp⟩, h⟩
theorem Own.rotG {w0 w : World} {L : List Ent} {a b c d e f g : Ent} (h : Own w0 w (a :: b :: c :: d :: e :: f :: g :: L)) : Own w0 w (e :: f :: g :: a :: b :: c :: d :: L) :=
  h.perm (by
    have := (List.perm_append_comm (l₁ := [a, b, c, d]) (l₂ := [e, f, g])).append_right L
    simpa using this)
theorem Own.sink5 {w0 w : World} {L : List Ent} {x a b c d e : Ent} (h : Own w0 w (x :: a :: b :: c :: d :: e :: L)) : Own w0 w (a :: b :: c :: d :: e :: x :: L) :=
  h.perm (by
    have := (List.perm_append_comm (l₁ := [x]) (l₂ := [a, b, c, d, e])).append_right L
    simpa using this)
theorem Own.rowsPut {w0 w : World} {L : List Ent} {s r k b q g m : Ent} (h : Own w0 w (s :: r :: k :: b :: q :: g :: m :: L)) : Own w0 w (g :: m :: s :: k :: b :: q :: r :: L) :=
  h.perm (by
    have h1 : (s :: r :: k :: b :: q :: g :: m :: L).Perm (g :: m :: s :: r :: k :: b :: q :: L) := by
      have := (List.perm_append_comm (l₁ := [s, r, k, b, q]) (l₂ := [g, m])).append_right L
      simpa using this
    have h2 : (r :: k :: b :: q :: L).Perm (k :: b :: q :: r :: L) := by
      have := (List.perm_append_comm (l₁ := [r]) (l₂ := [k, b, q])).append_right L
      simpa using this
    exact h1.trans (((h2.cons s).cons m).cons g))
theorem EdgesIn.mid2 {es : List Ent} {kv : KV} {ns : Nodes} {x : Ent} (h : EdgesIn (x :: es) kv ns) (y z : Ent) : EdgesIn (x :: y :: z :: es) kv ns := h.mono fun e he => by
  rcases List.mem_cons.1 he with rfl | he
  · simp
  · simp [he]
theorem min_facts (n b : Nat) (B : Int) (hB : B = (b : Int)) : ∃ m : Nat, min (n : Int) B = (m : Int) ∧ (if B < (n : Int) then B else (n : Int)) = (m : Int) ∧ (if (n : Int) < B then (n : Int) else B) = (m : Int) ∧ (if b < n then B else (n : Int)) = (m : Int) ∧ (if n < b then (n : Int) else B) = (m : Int) ∧ m ≤ n ∧ m ≤ b := by
  refine ⟨min n b, ?_, ?_, ?_, ?_, ?_, ?_, ?_⟩ <;> (try split) <;> omega
end Go.Proofs.Ytnlnkojcbjaeeaa
