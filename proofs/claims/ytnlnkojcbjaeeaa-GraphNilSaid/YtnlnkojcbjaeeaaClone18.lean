/- slices.Clone of sums. -/
import Derived.Test.YtnlnkojcbjaeeaaKey18
namespace Go.Proofs.Ytnlnkojcbjaeeaa
set_option linter.unusedVariables false
set_option linter.unusedSimpArgs false
set_option linter.unusedSectionVars false
open Go.RowKit
set_option linter.unusedVariables false
theorem eq_nil_none (W : World) : (binOp .eql 32 (.slice none 0 0) (.slice none 0 0)).run Try.prog W = .ok (.bool true) W := by kernel_rfl
theorem eq_nil_some (ad : Addr) (n c : Nat) (W : World) : (binOp .eql 32 (.slice (some ad) n c) (.slice none 0 0)).run Try.prog W = .ok (.bool false) W := by kernel_rfl
theorem own_empty (w : World) : OwnsR (w.alloc (.cells #[] 30)) w.heap.size 30 (.slice (some ⟨w.heap.size, 0, none⟩) 0 0) [] :=
  ⟨L32.nil, rfl, .inr ⟨w.heap.size, 0, #[], rfl, Nat.le_refl _, (MapKept.heap_alloc w _).1, Nat.le_refl _, by simp [maxLen], rfl, rfl⟩⟩
/-- a write to a block that was laid since: nothing that lay before has turned -/
theorem grown_back {w w1 w2 : World} {g : Nat} (h1 : w.grownBy w1 none) (h2 : w1.grownBy w2 (some g)) (hg : w.heap.size ≤ g) : w.grownBy w2 none :=
  ⟨h2.os.trans h1.os, h2.tape.trans h1.tape, h2.output.trans h1.output, Nat.le_trans h1.size h2.size, fun k hk _ =>
    (h2.block k (Nat.lt_of_lt_of_le hk h1.size) (fun e => by injection e with e; omega)).trans (h1.block k hk (by simp))⟩
set_option maxRecDepth 100000 in
set_option maxHeartbeats 1000000 in
theorem clone_any (A : Option Addr) (c : Nat) (L : List (List UInt8)) (w : World) (h : Rows32 w A c L) (hl : L.length ≤ 4096) :
    Calls Try.prog 32 #[.slice A L.length c] w fun e w' => ∃ v, e = .returned v ∧ OwnsR w' w.heap.size 30 v L ∧ w.grownBy w' none := by
  cases A with
  | none =>
    have hc := h.nil rfl
    have hn : L = [] := List.eq_nil_of_length_eq_zero (by have := h.le; omega)
    subst hn; subst hc
    clear h hl
    have he := eq_nil_none
    go_enter Try.func32, Try.ntmps32
    go_wp2
    go_ret
    exact ⟨_, rfl, ⟨L32.nil, World.ownsRow_nil w _ _ 32⟩, grownBy_refl _ _⟩
  | some ad =>
    have HR := Lib.hid h
    have HL := Lib.hid hl
    clear h hl
    have he := fun W => eq_nil_some ad L.length c W
    go_enter Try.func32, Try.ntmps32
    go_wp2_with (refine wp_appR rfl (.tmp 5) (.tmp 6) 32 rfl 30 Try.underlying32 info_rd ([] : List (List UInt8)) L rfl (own_empty w) (some ad) L.length c L rfl HR.out.all (((HR.out).keep (World.grownBy_alloc _ _ none)).src) rfl rfl (by have := HL.out; simp; omega) (by simp) ?_)
    intro v w1 ho hg hv
    have hg1 := grown_back (World.grownBy_alloc w (.cells #[] 30) none) hg (Nat.le_refl _)
    clear hg
    go_wp2
    go_ret
    exact ⟨_, rfl, ho, hg1⟩
end Go.Proofs.Ytnlnkojcbjaeeaa
