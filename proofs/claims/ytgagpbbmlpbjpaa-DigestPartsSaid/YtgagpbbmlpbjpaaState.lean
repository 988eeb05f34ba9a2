/- The contracts of a State's methods, and of the document's Save and Same. -/
import Derived.Test.YtgagpbbmlpbjpaaText
import Derived.Test.YtgagpbbmlpbjpaaRSum2
import Derived.Test.YtgagpbbmlpbjpaaCmp
namespace Go.Proofs.Ytgagpbbmlpbjpaa
open Go.RowKit

section
variable {P : Program}
theorem run_load1_op {w : World} {o : Oper} {a : Act} (ty : TypeId) (x : Operand) (ho : o.op = .load ty x) {d : TypeDesc} (hu : P.underlying ty = some d) (hd : isAggD d = false) (ad : Addr) (hx : a.eval x = .pointer (some ad)) (v : Value)
    (hc : w.cell? ad = some v) : (execOp a.eval o).run P w = .ok (.value v) w := by
  simp [execOp, ho, hx, Instr.loadAt, Instr.sureAddr, loadVar, Sem.run_bind, run_isAgg_no w hu hd, hc]
end

/-- a State under way, as a piece of memory -/
def hasE (g : Nat) (s : V8 × List UInt8) (n : Nat) : Ent := ⟨some g, fun w => Has w g s n⟩
theorem Has.grown {w w' : World} {g n : Nat} {s : V8 × List UInt8} {row : Option Nat} (h : Has w g s n) (hg : w.grownBy w' row) (hr : some g ≠ row) : Has w' g s n := by
  obtain ⟨buf, h1, h2, h3, h4⟩ := h
  exact ⟨buf, h1, h2, h3, h4.grown hg hr⟩
theorem hasE_good (g : Nat) (s : V8 × List UInt8) (n : Nat) : (hasE g s n).good :=
  ⟨fun _ _ _ h hg hr => Has.grown h hg (by rcases hr with hr | hr; · cases hr
                                           · exact hr), fun _ ⟨_, _, _, _, h⟩ k hk => by cases hk; exact h.lt⟩
theorem Own.has {w0 w : World} {L : List Ent} {g n : Nat} {s : V8 × List UInt8} (h : Own w0 w L) (i : Nat) (he : L[i]? = some (hasE g s n)) : Has w g s n := h.at_ i he
theorem has_cell8 {w : World} {g n : Nat} {s : V8 × List UInt8} (h : Has w g s n) : w.cell? ⟨g, 8, none⟩ = some (.int .u64 (n : Int)) := by
  obtain ⟨buf, _, _, _, hr⟩ := h
  exact hr.cell 8
theorem has_words {w : World} {g n : Nat} {s : V8 × List UInt8} (h : Has w g s n) : ∀ j v, (c32 (wordsOf s.1))[j]? = some v → w.cell? ((⟨g, 0, none⟩ : Addr).add j) = some v := by
  obtain ⟨buf, _, _, _, hr⟩ := h
  exact row_cells (A := []) (B := .int .u64 (n : Int) :: c8 buf) hr rfl
theorem has_tail {w : World} {g n : Nat} {s : V8 × List UInt8} (h : Has w g s n) : s.2.length = n % 64 ∧ BytesAt w g 9 s.2 := by
  obtain ⟨buf, h1, h2, h3, hr⟩ := h
  refine ⟨h2, fun j hj => ?_⟩
  rw [hr.cell]
  have e : stCells s.1 n buf = (c32 (wordsOf s.1) ++ [.int .u64 (n : Int)]) ++ c8 buf := by simp [stCells]
  rw [e, List.getElem?_append_right (by simp [wordsOf])]
  simp only [List.length_append, c32_length, wordsOf, List.length_cons, List.length_nil]
  rw [show 9 + j - (0 + 1 + 1 + 1 + 1 + 1 + 1 + 1 + 1 + (0 + 1)) = j from by omega, c8_get buf j (by omega), ← h3]
  simp only [List.getD_eq_getElem?_getD, List.getElem?_take]
  rw [if_pos (by omega)]

set_option maxRecDepth 100000 in
set_option maxHeartbeats 1000000 in
theorem swrite_ok (g n c : Nat) (A : Option Addr) (p : List UInt8) (s : V8 × List UInt8) (w : World) (hp : BytesOff w g A p) (hc : p.length ≤ c) (hc2 : c ≤ 9223372036854775807)
    (hs : Has w g s n) (hn : n + p.length ≤ 2305843009213693951) :
    Calls Try.prog 22 #[.pointer (some ⟨g, 0, none⟩), .slice A p.length c] w
      fun e w' => e = .returned (.int .i64 0) ∧ w.grownBy w' (some g) ∧ Has w' g (feed s p) (n + p.length) := by
  have c8' := has_cell8 hs
  have hc3 := put_any g n c A p s w hp hc hc2 hs (by omega)
  have HC := Lib.hid hc3
  clear hc3 hs hp
  go_enter Try.func22, Try.ntmps22
  go_wp2_with fail
  refine HC.out.mono ?_
  rintro e w' ⟨rfl, hg, hh⟩
  go_wp2
  go_ret
  exact ⟨rfl, hg, hh⟩
set_option maxRecDepth 100000 in
theorem swrite_limit (g n c : Nat) (A : Option Addr) (l : Nat) (s : V8 × List UInt8) (w : World) (hl : l ≤ 9223372036854775807)
    (hs : Has w g s n) (hn0 : n ≤ 2305843009213693951) (hn : 2305843009213693951 < n + l) :
    Calls Try.prog 22 #[.pointer (some ⟨g, 0, none⟩), .slice A l c] w
      fun e w' => e = .returned (.int .i64 8) ∧ w = w' := by
  have c8' := has_cell8 hs
  go_enter Try.func22, Try.ntmps22
  go_wp2
  go_ret
  exact ⟨rfl, rfl⟩
theorem swrite_nil (v : Value) (w : World) : Calls Try.prog 22 #[.pointer none, v] w fun e w' => e = .returned (.int .i64 2) ∧ w = w' := by
  go_enter Try.func22, Try.ntmps22
  go_wp2
  go_ret
  exact ⟨rfl, rfl⟩
theorem size_any (g n : Nat) (s : V8 × List UInt8) (w : World) (hs : Has w g s n) (hn : n ≤ 2305843009213693951) :
    Calls Try.prog 30 #[.pointer (some ⟨g, 0, none⟩)] w fun e w' => e = .returned (.int .i64 (n : Int)) ∧ w = w' := by
  have c8' := has_cell8 hs
  go_enter Try.func30, Try.ntmps30
  go_wp2
  go_ret
  exact ⟨rfl, rfl⟩
theorem size_nil (w : World) : Calls Try.prog 30 #[.pointer none] w fun e w' => e = .returned (.int .i64 0) ∧ w = w' := by
  go_enter Try.func30, Try.ntmps30
  go_wp2
  go_ret
  exact ⟨rfl, rfl⟩
theorem save_nil (w : World) : Calls Try.prog 25 #[.pointer none] w fun e w' => e = .returned (.slice none 0 0) ∧ w = w' := by
  go_enter Try.func25, Try.ntmps25
  go_wp2
  go_ret
  exact ⟨rfl, rfl⟩

/-! ### Same -/
set_option maxRecDepth 100000 in
set_option maxHeartbeats 1000000 in
theorem same_any (c d : Nat) (A B : Option Addr) (p q : List UInt8) (w : World) (hp : Bytes w A p) (hq : Bytes w B q) (hl : p.length ≤ 9223372036854775807) (hl2 : q.length ≤ 9223372036854775807) :
    Calls Try.prog 24 #[.slice A p.length c, .slice B q.length d] w fun e w' => e = .returned (.bool (decide (p = q))) ∧ w.grownBy w' none := by
  by_cases hlen : p.length = q.length
  · have t0 : ((p.length : Int) != (q.length : Int)) = false := by simp [hlen]
    have HL := Lib.hid hlen
    clear hlen
    go_enter Try.func24, Try.ntmps24
    go_wp2
    go_loopw [5] (fun i wr => ∃ k : Nat, k ≤ p.length ∧ i = .int .i64 k ∧ p.take k = q.take k ∧ Own w wr []) (fun i _ => p.length - (intOf i).toNat)
    case atStart => exact ⟨0, by omega, rfl, rfl, Own.start w⟩
    case round =>
      obtain ⟨k, hk, rfl, he, hS⟩ := hrel
      have HE := Lib.hid he
      clear he
      by_cases hlt : k < p.length
      · obtain ⟨b, off, rfl, hb, hc⟩ := hp.at_ (by omega)
        obtain ⟨b2, off2, rfl, hb2, hc2⟩ := hq.at_ (by have := HL.out; omega)
        have c0 := hS.cell (hc k hlt)
        have c1 := hS.cell (hc2 k (by have := HL.out; omega))
        have hmore := Lib.hid (take_more HE.out hlt (by have := HL.out; omega))
        have hne := Lib.hid (show n8 (p.getD k 0) ≠ n8 (q.getD k 0) → p ≠ q from fun h e => h (by rw [e]))
        obtain ⟨x, hx⟩ : ∃ x, x = n8 (p.getD k 0) := ⟨_, rfl⟩
        obtain ⟨y, hy⟩ : ∃ y, y = n8 (q.getD k 0) := ⟨_, rfl⟩
        rw [← hx] at c0
        rw [← hy] at c1
        rw [← hx, ← hy] at hmore
        rw [← hx, ← hy] at hne
        have q1 : (k : Int) < p.length := by omega
        have q2 : (k : Int) < q.length := by have := HL.out; omega
        clear hx hy hc hc2 hp hq
        by_cases hxy : x = y
        · have t1 : (x != y) = false := by simpa using hxy
          have HM := Lib.hid (hmore.out hxy)
          clear hmore hxy hne
          go_wp2
          go_quiet (fail)
          go_wp2
          go_roundw
          case rel => exact ⟨k + 1, by omega, by go_num, HM.out, hS.drewN _⟩
          case measure => simp [intOf]; omega
        · have t1 : (x != y) = true := by simpa using hxy
          have HN := Lib.hid (hne.out hxy)
          clear hmore hxy hne
          go_wp2
          go_quiet (fail)
          go_wp2
          go_ret
          exact ⟨by rw [decide_eq_false HN.out]; rfl, (hS.drewN _).grown⟩
      · have hpq : p = q := by
          have := HE.out
          rwa [List.take_of_length_le (by omega), List.take_of_length_le (by have := HL.out; omega)] at this
        have H0 := Lib.hid hpq
        have q1 : (p.length : Int) ≤ k := by omega
        clear hpq hlt
        go_wp2
        go_ret
        exact ⟨by rw [decide_eq_true H0.out]; rfl, hS.grown⟩
  · have t0 : ((p.length : Int) != (q.length : Int)) = true := by rw [bne_iff_ne]; omega
    have H0 := Lib.hid (show p ≠ q from fun e => hlen (by rw [e]))
    clear hlen
    go_enter Try.func24, Try.ntmps24
    go_wp2
    go_ret
    exact ⟨by rw [decide_eq_false H0.out]; rfl, grownBy_refl _ _⟩
end Go.Proofs.Ytgagpbbmlpbjpaa
