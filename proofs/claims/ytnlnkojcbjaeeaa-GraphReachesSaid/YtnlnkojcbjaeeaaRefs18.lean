/- (*Graph).Refs: a range over the graph's map. -/
import Derived.Test.YtnlnkojcbjaeeaaRange18
import Derived.Test.YtnlnkojcbjaeeaaContains18
namespace Go.Proofs.Ytnlnkojcbjaeeaa
set_option linter.unusedVariables false
set_option linter.unusedSimpArgs false
set_option linter.unusedSectionVars false
open Go.RowKit
set_option linter.unusedVariables false
def countN (d : Dg) (ns : Nodes) : Nat := ns.countP (fun p => decide (d ∈ p.2))
theorem countN_perm {d : Dg} {l m : Nodes} (h : l.Perm m) : countN d l = countN d m := h.countP_eq _
theorem countN_cons (d : Dg) (n : Dg × List Dg) (ns : Nodes) : countN d (n :: ns) = countN d ns + if d ∈ n.2 then 1 else 0 := by
  unfold countN; rw [List.countP_cons]; simp
theorem countN_le (d : Dg) (ns : Nodes) : countN d ns ≤ ns.length := List.countP_le_length
theorem All2.len {α β : Type} {R : α → β → Prop} {l : List α} {m : List β} (h : All2 R l m) : l.length = m.length := by
  induction h with
  | nil => rfl
  | cons _ _ ih => simp [ih]
set_option maxRecDepth 100000 in
set_option maxHeartbeats 1000000 in
theorem refs_any (w0 w : World) (G M : Nat) (kv : KV) (L : List Ent) (d : Dg) (ns : Nodes) (hd : d.length = 32) (hS : Own w0 w (gE G M :: mapE M kv :: L)) (he : EdgesIn L kv ns) (hl : ∀ p ∈ ns, p.2.length ≤ 4096) (hn : ns.length ≤ 4096) :
    Calls Try.prog 28 #[.pointer (some ⟨G, 0, none⟩), dgv d] w fun e w' => e = .returned (.int .i64 (countN d ns : Int)) ∧ w.grownBy w' none := by
  have HD := Lib.hid hd
  have HE := Lib.hid he
  have HN := Lib.hid (Nat.le_trans (countN_le d ns) hn)
  have HL := Lib.hid hl
  have hT := Own.start w
  clear hd he hl hn
  go_enter Try.func28, Try.ntmps28
  go_wp2_with (refine wp_box (o := ⟨some 3, _, _, _, _, _⟩) rfl 30 (.tmp 1) rfl (c8 d) rfl ?_)
  intro w1 hr hg hz
  clear hz
  have hS1 := hS.call hg
  have hT1 := hT.new hr hg
  clear hr hg hT hS
  have hm1 := hS1.map 1 rfl
  have cG := (hS1.gr 0 rfl).cell 0
  simp at cG
  go_wp2_with (at_range; refine wp_range rfl _ 70 30 32 rfl Try.underlying70 M kv rfl hm1 ?_; intro w2 hrg hg2)
  go_frame
  have hX2 := hS1.tail.tail.newE hg2 (anyE_good w1.heap.size) hrg.lt (fun k hk => by cases hk; exact Nat.le_refl _)
  have hT2 := hT1.newE hg2 (anyE_good w1.heap.size) hrg.lt (fun k hk => by cases hk; exact Nat.le_refl _)
  obtain ⟨r, hr⟩ : ∃ r, r = w1.heap.size := ⟨_, rfl⟩
  rw [← hr] at hrg hT2 hX2
  rw [← hr]
  clear hr hg2 hS1 hT1 hm1 cG
  have HRG := Lib.hid hrg
  clear hrg
  go_loopw [5, 7] (fun n _ wr => ∃ (k : Nat) (todo : KV) (tn : Nodes), n = .int .i64 (k : Int) ∧ k + countN d tn = countN d ns ∧ (∀ p ∈ tn, p.2.length ≤ 4096) ∧ EdgesIn L todo tn ∧ RangeAt wr M r kv todo ∧ Own w0 wr (anyE r :: L) ∧ Own w wr [anyE r, rowE w.heap.size 30 (c8 d)]) (fun _ _ wr => wr.rangeLeft M r)
  case atStart => exact ⟨0, kv, ns, rfl, by omega, HL.out, HE.out, HRG.out, hX2, hT2⟩
  case round =>
    clear hT2 hX2
    obtain ⟨k, todo, tn, rfl, hc, hle, hes, hrg, hX, hT⟩ := hrel
    have HC := Lib.hid hc
    have HLE := Lib.hid hle
    have HES := Lib.hid hes
    have HM := Lib.hid hrg.left_eq
    clear hc hle hes
    go_wp2_with (at_next; refine wp_next rfl _ rfl M r kv todo rfl hrg ?_ ?_)
    · intro h0
      have hk0 : k = countN d ns := by
        have h1 := HC.out
        have h2 := HES.out.len
        rw [h0] at h2
        rw [List.eq_nil_of_length_eq_zero h2.symm] at h1
        exact h1
      have HK0 := Lib.hid hk0
      clear h0 hk0 hrg
      go_wp2
      go_ret
      exact ⟨by rw [HK0.out]; rfl, hT.grown⟩
    · intro p1 p2 todo' w3 hp hrg3 hg3 hs3 hen
      obtain ⟨tn', htn, hes'⟩ := HES.out.perm hp
      have HM3 := Lib.hid (show w3.rangeLeft M r < wr.rangeLeft M r by rw [hrg3.left_eq, HM.out, hp.length_eq]; simp)
      cases hes' with
      | @cons _ q _ tn2 hq hes2 =>
        obtain ⟨q1, l⟩ := q
        obtain ⟨hpq, base, hmem⟩ := hq
        simp only at hmem hpq
        have hT3 := hT.write (w' := w3) (e' := anyE r) 0 rfl (anyE_good r) hrg3.lt hg3 (.inl rfl)
        have hX3 := hX.write (w' := w3) (e' := anyE r) 0 rfl (anyE_good r) hrg3.lt hg3 (.inl rfl)
        simp only [List.set_cons_zero] at hT3 hX3
        have ho : OwnsR w3 base 30 p2 l := (hX3.good _ (List.mem_cons_of_mem _ hmem)).2.1
        obtain ⟨A, c, rfl, hR, -⟩ := ownsR_open ho
        have HR := Lib.hid hR
        have HLQ := Lib.hid (HLE.out (q1, l) (htn.mem_iff.2 (by simp)))
        have HC2 := Lib.hid (show countN d tn = countN d tn2 + if d ∈ l then 1 else 0 by rw [countN_perm htn, countN_cons])
        have HLE2 := Lib.hid (show ∀ p ∈ tn2, p.2.length ≤ 4096 from fun p hp => HLE.out p (htn.mem_iff.2 (by simp [hp])))
        have HES2 := Lib.hid hes2
        have HRG3 := Lib.hid hrg3
        obtain ⟨b, hb⟩ : ∃ b, decide (d ∈ l) = b := ⟨_, rfl⟩
        have HB := Lib.hid hb
        clear hp hrg3 hg3 hs3 htn hpq hmem ho hR hes2 hT hX hrg hb
        go_wp2_with (refine wp_load rfl 30 (.tmp 3) rfl Try.underlying30 rfl ⟨w.heap.size, 0, none⟩ rfl (c8 d) (info_dg d HD.out) (row_all (hT3.row 1 rfl)) ?_)
        go_wp2_with fail
        refine (contains_any A c l d _ HR.out HD.out HLQ.out).mono ?_
        rintro e w4 ⟨rfl, hg4⟩
        have hT4 := hT3.call hg4
        have hX4 := hX3.call hg4
        have hrg4 := HRG3.out.call hg4
        have HM4 := Lib.hid (show w4.rangeLeft M r < wr.rangeLeft M r by rw [hrg4.left_eq, ← HRG3.out.left_eq]; exact HM3.out)
        clear hg4 hT3 hX3 hen
        rw [HB.out]
        cases b with
        | true =>
          have hd : d ∈ l := of_decide_eq_true HB.out
          have hc2 := HC2.out
          have hc1 := HC.out
          have hc3 := HN.out
          rw [if_pos hd] at hc2
          have HK := Lib.hid (show k + 1 + countN d tn2 = countN d ns by omega)
          have hk4 : (k : Int) + 1 ≤ 4096 := by omega
          clear hc1 hc2 hc3 hd
          go_wp2
          go_roundw
          case rel => exact ⟨k + 1, todo', tn2, by go_num, HK.out, HLE2.out, HES2.out, hrg4, hX4, hT4⟩
          case measure => exact HM4.out
        | false =>
          have hd : d ∉ l := of_decide_eq_false HB.out
          have hc2 := HC2.out
          have hc1 := HC.out
          rw [if_neg hd] at hc2
          have HK := Lib.hid (show k + countN d tn2 = countN d ns by omega)
          clear hc1 hc2 hd
          go_wp2
          go_roundw
          case rel => exact ⟨k, todo', tn2, rfl, HK.out, HLE2.out, HES2.out, hrg4, hX4, hT4⟩
          case measure => exact HM4.out
end Go.Proofs.Ytnlnkojcbjaeeaa
