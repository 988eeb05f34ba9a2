/- slices.SortedFunc of sums; the graph's 'sorted' at its two maps; Nodes. -/
import Derived.Test.YtnlnkojcbjaeeaaSort18
import Derived.Test.YtnlnkojcbjaeeaaLeaf18
namespace Go.Proofs.Ytnlnkojcbjaeeaa
set_option linter.unusedVariables false
set_option linter.unusedSimpArgs false
set_option linter.unusedSectionVars false
open Go.Shelf Go.RowKit Go.Sort
set_option linter.unusedVariables false
/-- sums that stand in order, each once -/
def Rising (R : List Dg) : Prop := R.Pairwise fun x y => cmpL x y < 0
theorem sortD32_perm (ss : List D32) : ((sortD32 ss).map (·.1)).Perm (ss.map (·.1)) := (List.mergeSort_perm _ _).map _
theorem sortD32_rising (ss : List D32) (hn : (ss.map (·.1)).Nodup) : Rising ((sortD32 ss).map (·.1)) := by
  have h1 : (sortD32 ss).Pairwise (fun x y => (!(ltOf cfD y x)) = true) := List.pairwise_mergeSort
    (fun a b c h1 h2 => by
      simp only [Bool.not_eq_true'] at *
      exact swoD.ntrans c b a h2 h1)
    (fun a b => by
      cases h : ltOf cfD b a with
      | false => rfl
      | true =>
        have h2 : ltOf cfD a b = false := by
          cases h3 : ltOf cfD a b with
          | false => rfl
          | true => exact absurd (swoD.trans b a b h h3) (by rw [swoD.irrefl b]; simp)
        rw [h2]; rfl) ss
  have h2 : ((sortD32 ss).map (·.1)).Nodup := (sortD32_perm ss).nodup_iff.2 hn
  unfold Rising
  rw [List.pairwise_map]
  have h3 : (sortD32 ss).Pairwise (fun x y => x.1 ≠ y.1) := by
    unfold List.Nodup at h2
    rwa [List.pairwise_map] at h2
  refine (h1.and h3).imp ?_
  rintro x y ⟨h4, h5⟩
  simp only [ltD, Bool.not_eq_true', decide_eq_false_iff_not] at h4
  have a1 := cmpL_anti x.1 y.1
  have a2 : cmpL x.1 y.1 ≠ 0 := fun e => h5 (cmpL_eq x.1 y.1 (by rw [x.2, y.2]) e)
  omega
theorem rising_eq : ∀ {R S : List Dg}, L32 R → Rising R → Rising S → R.Perm S → R = S := by
  intro R
  induction R with
  | nil => intro S _ _ _ hp; exact hp.nil_eq
  | cons x R ih =>
    intro S h32 hR hS hp
    cases S with
    | nil => exact absurd hp.length_eq (by simp)
    | cons y S =>
      have h32' : L32 (y :: S) := fun z hz => h32 z (hp.mem_iff.2 hz)
      have hxy : x = y := by
        by_cases e : x = y
        · exact e
        · have hx : x ∈ S := ((List.mem_cons.1 (hp.mem_iff.1 (by simp : x ∈ x :: R))).resolve_left e)
          have hy : y ∈ R := ((List.mem_cons.1 (hp.mem_iff.2 (by simp : y ∈ y :: S))).resolve_left (Ne.symm e))
          have q1 := (List.pairwise_cons.1 hR).1 y hy
          have q2 := (List.pairwise_cons.1 hS).1 x hx
          have := cmpL_anti x y
          omega
      subst hxy
      rw [ih (fun z hz => h32 z (by simp [hz])) (List.pairwise_cons.1 hR).2 (List.pairwise_cons.1 hS).2 hp.cons_inv]
set_option maxRecDepth 100000 in
set_option maxHeartbeats 1000000 in
theorem sortedFunc_any (g : Nat) (lb : Array Value) (eg : ∀ args w, (callFunc g args).run Try.prog w = .ok (.enter g args) w) (S : List D32 → Prop) (N : Nat) (hN : N ≤ 4096) (hS : ∀ ss, S ss → ss.length ≤ 4096) (w : World) (hseq : SeqGives Fence.wide 1 Try.prog g lb encV S N w) :
    Calls Try.prog 41 #[.func (.func g) #[] lb, .func (.func 43) #[] #[]] w fun e w' => ∃ (v : Value) (ss : List D32), e = .returned v ∧ S ss ∧ Own w w' [rowsE w.heap.size 30 v ((sortD32 ss).map (·.1))] := by
  have hcol := callsIn_wide.1 (collect_in Fence.wide 3 trivial trivial rfl (by omega) g lb trivial eg S N hN w hseq)
  have HS := Lib.hid hS
  clear hseq hS
  go_enter Try.func41, Try.ntmps41
  go_wp2_with fail
  refine hcol.mono ?_
  rintro e w1 ⟨v, ss, rfl, hs, hS1⟩
  have HSS := Lib.hid hs
  obtain ⟨G, hG⟩ : ∃ G, G = ss.map (·.1) := ⟨_, rfl⟩
  have ho := hS1.rows 0 rfl
  have k1 := sortFunc_any w.heap.size v ss w1 ho (HS.out ss hs)
  rw [← hG] at ho hS1
  obtain ⟨A, c, rfl, -, -⟩ := ownsR_open ho
  clear hs ho hcol hG
  go_wp2_with fail
  refine k1.mono ?_
  rintro e w2 ⟨rfl, ho2, hg2⟩
  obtain ⟨R, hR⟩ : ∃ R, R = (sortD32 ss).map (·.1) := ⟨_, rfl⟩
  rw [← hR] at ho2
  have hS2 := hS1.write (w' := w2) (e' := rowsE w.heap.size 30 (.slice A G.length c) R) 0 rfl (rowsE_good _ _ _ _) ho2 hg2 (.inl rfl)
  have HR := Lib.hid hR
  clear k1 ho2 hg2 hS1 hR
  go_wp2
  go_ret
  exact ⟨_, ss, rfl, HSS.out, by rw [← HR.out]; exact hS2⟩

set_option maxRecDepth 100000 in
set_option maxHeartbeats 1000000 in
theorem sortedB_any (b : Nat) (kv : KV) (w : World) (hM : MapAt w b kv) (hl : kv.length ≤ 4096) :
    Calls Try.prog 34 #[.map (some b)] w fun e w' => ∃ v R, e = .returned v ∧ R.Perm (kv.map (·.1)) ∧ Rising R ∧ Own w w' [rowsE w.heap.size 30 v R] := by
  have hk := callsIn_wide.1 (keysB_in Fence.wide 1 trivial rfl b w)
  have eg : ∀ args w, (callFunc 48 args).run Try.prog w = .ok (.enter 48 args) w := enters_of Try.func48 (by kernel_rfl) rfl
  have hM1 : MapAt (w.alloc (.cells #[.map (some b)] 77)) b kv := hM.kept (World.grownBy_alloc w _ none) (by simp)
  have hseq := keysB_gives Fence.wide 1 trivial rfl (by omega) w.heap.size b kv (w.alloc (.cells #[.map (some b)] 77)) (by simp) ((Row.new w 77 [.map (some b)]).cell 0) hM1
  have hlen : ∀ ss, keysL kv ss → ss.length ≤ 4096 := fun ss h => by have := h.length_eq; simp at this; omega
  have hsf := sortedFunc_any _ _ eg (keysL kv) kv.length hl hlen _ hseq
  have hnd := hM.nodup
  have hS0 := (Own.start w).call (World.grownBy_alloc w (.cells #[.map (some b)] 77) none)
  have HH := Lib.hid (show ∀ ss, keysL kv ss → ((sortD32 ss).map (·.1)).Perm (kv.map (·.1)) ∧ Rising ((sortD32 ss).map (·.1)) from fun ss h =>
    ⟨(sortD32_perm ss).trans h, sortD32_rising ss (h.nodup_iff.2 hnd)⟩)
  clear hM hM1 hseq hlen hnd hl eg
  go_enter Try.func34, Try.ntmps34
  go_wp2_with fail
  refine hk.mono ?_
  rintro e w1 ⟨rfl, rfl⟩
  go_wp2_with fail
  refine hsf.mono ?_
  rintro e w2 ⟨v, ss, rfl, hs, hS1⟩
  obtain ⟨q1, q2⟩ := HH.out ss hs
  have hS2 := hS0.join hS1
  obtain ⟨R, hR⟩ : ∃ R, R = (sortD32 ss).map (·.1) := ⟨_, rfl⟩
  rw [← hR] at q1 q2 hS2
  have hS3 := hS2.lower 0 rfl
  simp only [List.append_nil, List.set_cons_zero] at hS3
  have HP := Lib.hid q1
  have HR := Lib.hid q2
  clear hS1 hS2 hS0 hsf hk hR q1 q2 hs
  go_wp2
  go_ret
  exact ⟨v, R, rfl, HP.out, HR.out, hS3⟩

set_option maxRecDepth 100000 in
set_option maxHeartbeats 1000000 in
theorem sortedG_any (b : Nat) (kv : KV) (w : World) (hM : MapAt w b kv) (hl : kv.length ≤ 4096) :
    Calls Try.prog 38 #[.map (some b)] w fun e w' => ∃ v R, e = .returned v ∧ R.Perm (kv.map (·.1)) ∧ Rising R ∧ Own w w' [rowsE w.heap.size 30 v R] := by
  have hk := callsIn_wide.1 (keysG_in Fence.wide 1 trivial rfl b w)
  have eg : ∀ args w, (callFunc 49 args).run Try.prog w = .ok (.enter 49 args) w := enters_of Try.func49 (by kernel_rfl) rfl
  have hM1 : MapAt (w.alloc (.cells #[.map (some b)] 70)) b kv := hM.kept (World.grownBy_alloc w _ none) (by simp)
  have hseq := keysG_gives Fence.wide 1 trivial rfl (by omega) w.heap.size b kv (w.alloc (.cells #[.map (some b)] 70)) (by simp) ((Row.new w 70 [.map (some b)]).cell 0) hM1
  have hlen : ∀ ss, keysL kv ss → ss.length ≤ 4096 := fun ss h => by have := h.length_eq; simp at this; omega
  have hsf := sortedFunc_any _ _ eg (keysL kv) kv.length hl hlen _ hseq
  have hnd := hM.nodup
  have hS0 := (Own.start w).call (World.grownBy_alloc w (.cells #[.map (some b)] 70) none)
  have HH := Lib.hid (show ∀ ss, keysL kv ss → ((sortD32 ss).map (·.1)).Perm (kv.map (·.1)) ∧ Rising ((sortD32 ss).map (·.1)) from fun ss h =>
    ⟨(sortD32_perm ss).trans h, sortD32_rising ss (h.nodup_iff.2 hnd)⟩)
  clear hM hM1 hseq hlen hnd hl eg
  go_enter Try.func38, Try.ntmps38
  go_wp2_with fail
  refine hk.mono ?_
  rintro e w1 ⟨rfl, rfl⟩
  go_wp2_with fail
  refine hsf.mono ?_
  rintro e w2 ⟨v, ss, rfl, hs, hS1⟩
  obtain ⟨q1, q2⟩ := HH.out ss hs
  have hS2 := hS0.join hS1
  obtain ⟨R, hR⟩ : ∃ R, R = (sortD32 ss).map (·.1) := ⟨_, rfl⟩
  rw [← hR] at q1 q2 hS2
  have hS3 := hS2.lower 0 rfl
  simp only [List.append_nil, List.set_cons_zero] at hS3
  have HP := Lib.hid q1
  have HR := Lib.hid q2
  clear hS1 hS2 hS0 hsf hk hR q1 q2 hs
  go_wp2
  go_ret
  exact ⟨v, R, rfl, HP.out, HR.out, hS3⟩

set_option maxRecDepth 100000 in
set_option maxHeartbeats 1000000 in
theorem nodesG_any (w0 w : World) (G M : Nat) (kv : KV) (L : List Ent) (hS : Own w0 w (gE G M :: mapE M kv :: L)) (hl : kv.length ≤ 4096) :
    Calls Try.prog 24 #[.pointer (some ⟨G, 0, none⟩)] w fun e w' => ∃ v R, e = .returned v ∧ R.Perm (kv.map (·.1)) ∧ Rising R ∧ Own w w' [rowsE w.heap.size 30 v R] := by
  have k1 := sortedG_any M kv w (hS.map 1 rfl) hl
  have cG := (hS.gr 0 rfl).cell 0
  simp at cG
  clear hS
  go_enter Try.func24, Try.ntmps24
  go_wp2_with fail
  refine k1.mono ?_
  rintro e w1 ⟨v, R, rfl, h1, h2, h3⟩
  have HX := Lib.hid (And.intro h1 (And.intro h2 h3))
  clear h1 h2 h3 k1
  go_wp2
  go_ret
  exact ⟨v, R, rfl, HX.out.1, HX.out.2.1, HX.out.2.2⟩
end Go.Proofs.Ytnlnkojcbjaeeaa
