/- Equality of arrays of bytes, and of arrays of such arrays: when they hold the same bytes. No program in sight. -/
import Derived.Test.YtpohjldhbaalbaaAgg
import Derived.DeepKeys
namespace Go.Proofs.Ytpohjldhbaalbaa
set_option linter.unusedVariables false
set_option linter.unusedSimpArgs false
set_option linter.unusedSectionVars false
open Go.RowKit

section
variable {P : Program}
def lit8 (x : UInt8) : Lit := .int .u8 (n8 x)
theorem lit8_inj {x y : UInt8} (h : lit8 x = lit8 y) : x = y := by
  unfold lit8 at h; injection h with _ h; exact n8_inj h
theorem map_lit8_inj : ∀ {a b : List UInt8}, a.map lit8 = b.map lit8 → a = b
  | [], [], _ => rfl
  | [], _ :: _, h => by simp at h
  | _ :: _, [], h => by simp at h
  | x :: a, y :: b, h => by
    simp only [List.map_cons, List.cons.injEq] at h
    rw [lit8_inj h.1, map_lit8_inj h.2]
theorem lit8_wf (x : UInt8) : (Lit.int .u8 (n8 x)).wf = true := by
  have h1 := n8_lo x
  have h2 := n8_hi x
  go_wf
/-- A type of whose values the cells 'c8 l' are read as the list of their numbers. -/
def Reads8 (P : Program) (d : Nat) (t : TypeId) (n : Nat) : Prop := ∀ l : List UInt8, l.length = n → P.keyLits d t (c8 l) = some (l.map lit8)
theorem reads8_u8 (d : Nat) {e : TypeId} (hu : P.underlying e = some (.int .u8)) : Reads8 P (d + 1) e 1 := by
  intro l hl
  match l, hl with
  | [x], _ => simp [Program.keyLits, hu, c8, v8, lit8, lit8_wf]
theorem mapM_some {α β : Type} (f : α → Option β) (g : α → β) : ∀ (l : List α), (∀ x ∈ l, f x = some (g x)) → l.mapM f = some (l.map g)
  | [], _ => rfl
  | x :: l, h => by
    rw [List.mapM_cons, h x (by simp), mapM_some f g l (fun y hy => h y (by simp [hy]))]
    rfl
theorem chunks_flat {α : Type} (c : Nat) : ∀ (n : Nat) (l : List α), l.length = n * c → ((List.range n).map fun i => (l.drop (i * c)).take c).flatten = l
  | 0, l, h => by
    have : l = [] := List.eq_nil_of_length_eq_zero (by simpa using h)
    simp [this]
  | n + 1, l, h => by
    have h1 : (l.drop c).length = n * c := by rw [List.length_drop, h, Nat.add_mul]; omega
    rw [List.range_succ_eq_map, List.map_cons, List.flatten_cons, List.map_map]
    have ih := chunks_flat c n (l.drop c) h1
    have e : ((List.range n).map ((fun i => (l.drop (i * c)).take c) ∘ Nat.succ)) = ((List.range n).map fun i => ((l.drop c).drop (i * c)).take c) := by
      refine List.map_congr_left fun i _ => ?_
      simp only [Function.comp_apply, List.drop_drop]
      rw [show c + i * c = Nat.succ i * c from by rw [Nat.succ_mul]; omega]
    rw [e, ih]
    simp
theorem reads8_array {d : Nat} {T e : TypeId} {n c : Nat} (hT : P.underlying T = some (.array n e)) (hc : P.cellsOf e = c) (hC : P.cellsOf T = n * c) (h : Reads8 P d e c) : Reads8 P (d + 1) T (n * c) := by
  intro l hl
  unfold Program.keyLits
  rw [hT]
  simp only [c8_length, hl, hC, if_true, hc]
  have h1 : (List.range n).mapM (fun i => P.keyLits d e (((c8 l).drop (i * c)).take c)) = some ((List.range n).map fun i => ((l.drop (i * c)).take c).map lit8) := by
    refine mapM_some _ _ _ fun i hi => ?_
    have hi' : i < n := List.mem_range.1 hi
    have hle : (i + 1) * c ≤ n * c := Nat.mul_le_mul_right c hi'
    rw [Nat.add_mul] at hle
    have := h ((l.drop (i * c)).take c) (by rw [List.length_take, List.length_drop, hl]; omega)
    rw [← this]
    simp [c8, List.map_take, List.map_drop]
  rw [h1]
  simp only [Option.map_some, Option.some.injEq]
  have h2 := congrArg (List.map lit8) (chunks_flat c n l hl)
  rw [List.map_flatten, List.map_map] at h2
  exact h2
theorem reads8_formed {T e : TypeId} {n m : Nat} (hT : P.underlying T = some (.array m e)) (hC : P.cellsOf T = n) (l : List UInt8) (hl : l.length = n) : Value.formed P T (.agg (c8 l).toArray) = true := by
  simp [Value.formed, hT, hl, hC]
/-- What '==' gives at an array of bytes, or of arrays of bytes. -/
theorem run_eq8 (w : World) {D k m : Nat} {T e : TypeId} {n : Nat} (hT : P.underlying T = some (.array m e)) (hC : P.cellsOf T = n) (hk : P.keyTypeAt k T = true) (hr : Reads8 P D T n) (a b : List UInt8) (ha : a.length = n) (hb : b.length = n) (d : Nat) :
    (Op.equalIn (d + k) T (.agg (c8 a).toArray) (.agg (c8 b).toArray)).run P w = .ok (decide (a = b)) w := by
  obtain ⟨r, h1, h2⟩ := run_equalIn_deep d k T hk w D D (.agg (c8 a).toArray) (.agg (c8 b).toArray) (a.map lit8) (b.map lit8)
    (reads8_formed hT hC a ha) (reads8_formed hT hC b hb) (by simpa [Value.cells] using hr a ha) (by simpa [Value.cells] using hr b hb)
  rw [h1]
  congr 1
  rw [Bool.eq_iff_iff, h2, decide_eq_true_iff]
  exact ⟨map_lit8_inj, fun h => by rw [h]⟩
end
end Go.Proofs.Ytpohjldhbaalbaa
