/- The graph's maps: keys are sums; the laws of Maps18 for this program. -/
import Derived.Test.YtnlnkojcbjaeeaaMaps18
import Derived.Test.YtnlnkojcbjaeeaaQueue18
namespace Go.Proofs.Ytnlnkojcbjaeeaa
set_option linter.unusedVariables false
set_option linter.unusedSimpArgs false
set_option linter.unusedSectionVars false
open Go.RowKit
open Go.Maps (Keyed)
set_option linter.unusedVariables false
abbrev MG : TypeId := 70
abbrev MB : TypeId := 77
theorem laid18 : laidOutB Try.prog = true := by kernel_rfl
theorem row_dg : (30 : TypeId) < Try.prog.types.size := of_decide_eq_true (by kernel_rfl)
theorem wide_dg : (match Try.prog.underlying 30 with | some (.array _ _) | some (.struct _) => true | _ => false) = true := by rw [Try.underlying30]
set_option maxRecDepth 100000 in
theorem KDg : Keyed Try.prog 30 := Keyed.of_law (deep_law_laid laid18 (m := 2) (by omega) row_dg (by kernel_rfl) wide_dg)
theorem kdg (k : Dg) (hk : k.length = 32) : ∃ l, keyOf Try.prog 30 (dgv k) = some l :=
  key_dg Try.underlying30 Try.underlying5 (by kernel_rfl) (by kernel_rfl) (by kernel_rfl) (by kernel_rfl) k hk
theorem zero_sl (w : World) : (zeroValue 32).run Try.prog w = .ok (.slice none 0 0) w := by kernel_rfl
theorem zero_un (w : World) : (zeroValue 76).run Try.prog w = .ok (.agg #[]) w := by kernel_rfl
/-- the edges' map: values are slices -/
theorem lookG {w : World} {b : Nat} {kv : KV} (h : MapAt w b kv) (k : Dg) (hk : k.length = 32) :
    (Instr.lookup MG (.map (some b)) (dgv k) true).run Try.prog w = .ok (.tuple #[(lookKV kv k).getD (.slice none 0 0), .bool (hasKV kv k)]) w :=
  h.look KDg kdg Try.underlying70 (zero_sl w) k hk
theorem lookB {w : World} {b : Nat} {kv : KV} (h : MapAt w b kv) (k : Dg) (hk : k.length = 32) :
    (Instr.lookup MB (.map (some b)) (dgv k) true).run Try.prog w = .ok (.tuple #[(lookKV kv k).getD (.agg #[]), .bool (hasKV kv k)]) w :=
  h.look KDg kdg Try.underlying77 (zero_un w) k hk
theorem putG {w : World} {b : Nat} {kv : KV} (h : MapAt w b kv) (k : Dg) (hk : k.length = 32) (v : Value) :
    ∃ w', (Instr.mapUpdate MG (.map (some b)) (dgv k) v).run Try.prog w = .ok () w' ∧ MapAt w' b (putKV kv k v) ∧ w.grownBy w' (some b) ∧ w'.heap.size = w.heap.size :=
  h.put KDg kdg Try.underlying70 k hk v
theorem putB {w : World} {b : Nat} {kv : KV} (h : MapAt w b kv) (k : Dg) (hk : k.length = 32) (v : Value) :
    ∃ w', (Instr.mapUpdate MB (.map (some b)) (dgv k) v).run Try.prog w = .ok () w' ∧ MapAt w' b (putKV kv k v) ∧ w.grownBy w' (some b) ∧ w'.heap.size = w.heap.size :=
  h.put KDg kdg Try.underlying77 k hk v
theorem delG {w : World} {b : Nat} {kv : KV} {ty : TypeId} (h : MapAt w b kv) (k : Dg) (hk : k.length = 32) :
    ∃ w', (Builtin.delete_ #[MG, 30] ty #[.map (some b), dgv k]).run Try.prog w = .ok (.tuple #[]) w' ∧ MapAt w' b (delKV kv k) ∧ w.grownBy w' (some b) ∧ w'.heap.size = w.heap.size :=
  h.del KDg kdg Try.underlying70 k hk
theorem delB {w : World} {b : Nat} {kv : KV} {ty : TypeId} (h : MapAt w b kv) (k : Dg) (hk : k.length = 32) :
    ∃ w', (Builtin.delete_ #[MB, 30] ty #[.map (some b), dgv k]).run Try.prog w = .ok (.tuple #[]) w' ∧ MapAt w' b (delKV kv k) ∧ w.grownBy w' (some b) ∧ w'.heap.size = w.heap.size :=
  h.del KDg kdg Try.underlying77 k hk
end Go.Proofs.Ytnlnkojcbjaeeaa
