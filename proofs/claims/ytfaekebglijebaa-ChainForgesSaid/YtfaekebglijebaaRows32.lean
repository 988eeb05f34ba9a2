/- Arrays of 67 arrays of 32 bytes: as one list of 2144 bytes. -/
import Derived.Test.YtfaekebglijebaaOwn4
import Derived.Test.YtfaekebglijebaaForgeLaw
import Derived.Test.YtfaekebglijebaaEq
namespace Go.Proofs.Ytfaekebglijebaa
open Go.RowKit
set_option linter.unusedVariables false

section
variable {P : Program}
theorem run_part_agg (w : World) {e : TypeId} {d : TypeDesc} (hu : P.underlying e = some d) (hd : isAggD d = true) {s : Nat} (hi : (P.info? e).map (·.size) = some s) (cs : Array Value) (off : Nat) :
    (part e cs off).run P w = .ok (.agg (cs.extract off (off + s))) w := by
  cases hq : P.info? e with
  | none => simp [hq] at hi
  | some j =>
    have hs : j.size = s := by simpa [hq] using hi
    simp [part, Sem.run_bind, run_isAgg w hu hd, sizeOf, typeInfo, hq, hs]
/-- 'x[i]' of an array value of arrays -/
theorem run_index_rows (w : World) {T e : TypeId} {n s : Nat} {d : TypeDesc} (hT : P.underlying T = some (.array n e)) (hu : P.underlying e = some d) (hd : isAggD d = true)
    (hi : (P.info? e).map (·.size) = some s) (cs : List Value) (i : Nat) (h : i < n) :
    (Instr.index T (.agg cs.toArray) (.int .i64 (i : Int))).run P w = .ok (.agg ((cs.drop (i * s)).take s).toArray) w := by
  have hp := run_part_agg w hu hd hi cs.toArray (i * s)
  cases hq : P.info? e with
  | none => simp [hq] at hi
  | some j =>
    have hs : j.size = s := by simpa [hq] using hi
    have hb : 0 ≤ (i : Int) ∧ (i : Int) < (n : Int) := by omega
    have e1 : cs.toArray.extract (i * s) (i * s + s) = ((cs.drop (i * s)).take s).toArray := by simp
    rw [e1] at hp
    simp [Instr.index, asIntOf, Sem.run_bind, run_underlying hT, hb, h, sizeOf, typeInfo, hq, hs]
    simpa using hp
end
theorem c8_chunk (l : List UInt8) (i : Nat) : ((c8 l).drop (i * 32)).take 32 = c8 (chunk32 l i) := by simp [c8, chunk32, Nat.mul_comm]
theorem row_chunk {w : World} {g : Nat} {t : TypeId} {l : List UInt8} (h : Row w g t (c8 l)) (k : Nat) : ∀ j v, (c8 (chunk32 l k))[j]? = some v → w.cell? ((⟨g, k * 32, none⟩ : Addr).add j) = some v := by
  rw [Nat.mul_comm k 32]
  intro j v hv
  have hj : j < 32 := by have := (List.getElem?_eq_some_iff.1 hv).1; rw [c8_length] at this; unfold chunk32 at this; simp at this; omega
  rw [addr_add, h.cell, ← hv, ← c8_chunk, List.getElem?_take, if_pos hj, List.getElem?_drop, Nat.mul_comm]
def z2144 : List UInt8 := List.replicate 2144 0
/-- the first k rows of f, zeros behind them -/
def fl (f : Nat → List UInt8) (k : Nat) : List UInt8 := flatN f k ++ List.replicate (2144 - 32 * k) 0
theorem fl_zero (f : Nat → List UInt8) : fl f 0 = z2144 := by
  unfold fl
  rw [show 2144 - 32 * 0 = 2144 from rfl]
  rfl
theorem fl_length (f : Nat → List UInt8) (k : Nat) (hf : ∀ c, c < k → (f c).length = 32) (hk : k ≤ 67) : (fl f k).length = 2144 := by
  unfold fl; rw [List.length_append, flatN_length f k hf]; simp; omega
theorem fl_full (f : Nat → List UInt8) : fl f 67 = flatN f 67 := by simp [fl]
theorem splice32 (A B d : List UInt8) (k : Nat) (hA : A.length = 32 * k) (hd : d.length = 32) : splice (c8 (A ++ B)) (32 * k) (c8 d) = c8 (A ++ (d ++ B.drop 32)) := by
  unfold splice c8
  rw [← List.map_take, ← List.map_drop, ← List.map_append, ← List.map_append, List.length_map]
  congr 1
  rw [List.take_append_of_le_length (by omega), List.take_of_length_le (by omega), List.drop_append, List.drop_of_length_le (by omega), hd, hA]
  simp
theorem fl_step (f : Nat → List UInt8) (k : Nat) (hf : ∀ c, c < k → (f c).length = 32) (hk : k < 67) (h : (f k).length = 32) : splice (c8 (fl f k)) (k * 32) (c8 (f k)) = c8 (fl f (k + 1)) := by
  rw [Nat.mul_comm k 32]
  unfold fl
  rw [splice32 _ _ _ _ (flatN_length f k hf) h, flatN_succ, List.append_assoc]
  congr 3
  simp; omega
theorem chunks_flatN (l : List UInt8) (hl : l.length = 2144) : flatN (chunk32 l) 67 = l := by
  have h1 : ∀ c, c < 67 → (chunk32 l c).length = 32 := fun c hc => chunk32_length l c 67 hl hc
  refine chunks_eq 67 _ _ (flatN_length _ 67 h1) hl fun c hc => ?_
  exact flatN_chunk _ 67 c h1 hc
/-- the first k rows turned into f's, the others as they were -/
def mx (f : Nat → List UInt8) (l : List UInt8) (k : Nat) : List UInt8 := flatN f k ++ l.drop (32 * k)
theorem mx_zero (f : Nat → List UInt8) (l : List UInt8) : mx f l 0 = l := by simp [mx, flatN]
theorem mx_full (f : Nat → List UInt8) (l : List UInt8) (hl : l.length = 2144) : mx f l 67 = flatN f 67 := by
  unfold mx; rw [List.drop_of_length_le (by omega), List.append_nil]
theorem mx_length (f : Nat → List UInt8) (l : List UInt8) (k : Nat) (hf : ∀ c, c < k → (f c).length = 32) (hk : k ≤ 67) (hl : l.length = 2144) : (mx f l k).length = 2144 := by
  unfold mx; rw [List.length_append, flatN_length f k hf]; simp; omega
theorem mx_step (f : Nat → List UInt8) (l : List UInt8) (k : Nat) (hf : ∀ c, c < k → (f c).length = 32) (h : (f k).length = 32) : splice (c8 (mx f l k)) (k * 32) (c8 (f k)) = c8 (mx f l (k + 1)) := by
  rw [Nat.mul_comm k 32]
  unfold mx
  rw [splice32 _ _ _ _ (flatN_length f k hf) h, flatN_succ, List.append_assoc, List.drop_drop, show 32 * k + 32 = 32 * (k + 1) by omega]
theorem mx_chunk (f : Nat → List UInt8) (l : List UInt8) (k : Nat) (hf : ∀ c, c < k → (f c).length = 32) : chunk32 (mx f l k) k = chunk32 l k := by
  unfold mx chunk32
  rw [List.drop_append, List.drop_of_length_le (by rw [flatN_length f k hf]; omega), flatN_length f k hf]
  simp
theorem alloc_f32 (W : World) : (Instr.alloc 45 true (.tuple #[])).run Try.prog W = .ok (.pointer (some ⟨W.heap.size, 0, none⟩)) (W.alloc (.cells (c8 z2144).toArray 45)) := by kernel_rfl
theorem alloc_fd (W : World) : (Instr.alloc 47 true (.tuple #[])).run Try.prog W = .ok (.pointer (some ⟨W.heap.size, 0, none⟩)) (W.alloc (.cells (c8 z2144).toArray 47)) := by kernel_rfl
theorem info_f32 (l : List UInt8) (h : l.length = 2144) : (Try.prog.info? 45).map (·.size) = some (c8 l).length := by rw [c8_length, h]; kernel_rfl
theorem info_fd (l : List UInt8) (h : l.length = 2144) : (Try.prog.info? 47).map (·.size) = some (c8 l).length := by rw [c8_length, h]; kernel_rfl
theorem idx_f32 (W : World) (l : List UInt8) (i : Nat) (h : i < 67) : (Instr.index 45 (.agg (c8 l).toArray) (.int .i64 (i : Int))).run Try.prog W = .ok (.agg (c8 (chunk32 l i)).toArray) W := by
  rw [run_index_rows W Try.underlying45 Try.underlying22 rfl (s := 32) (by kernel_rfl) (c8 l) i h, c8_chunk]
theorem idx_fd (W : World) (l : List UInt8) (i : Nat) (h : i < 67) : (Instr.index 47 (.agg (c8 l).toArray) (.int .i64 (i : Int))).run Try.prog W = .ok (.agg (c8 (chunk32 l i)).toArray) W := by
  rw [run_index_rows W Try.underlying47 Try.underlying24 rfl (s := 32) (by kernel_rfl) (c8 l) i h, c8_chunk]
theorem eq_f32 (W : World) (a b : List UInt8) (ha : a.length = 2144) (hb : b.length = 2144) :
    (Op.equalIn 10000 45 (.agg (c8 a).toArray) (.agg (c8 b).toArray)).run Try.prog W = .ok (decide (a = b)) W :=
  run_eq8 W (D := 3) (k := 3) (n := 2144) Try.underlying45 (by kernel_rfl) (by kernel_rfl)
    (reads8_array (n := 67) (c := 32) Try.underlying45 (by kernel_rfl) (by kernel_rfl) (reads8_array (n := 32) (c := 1) Try.underlying22 (by kernel_rfl) (by kernel_rfl) (reads8_u8 0 Try.underlying5))) a b ha hb 9997
end Go.Proofs.Ytfaekebglijebaa
