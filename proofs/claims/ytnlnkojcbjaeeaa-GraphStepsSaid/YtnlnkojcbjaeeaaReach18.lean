/- (*Graph).Reach. -/
import Derived.Test.YtnlnkojcbjaeeaaStepW18
import Derived.Test.YtnlnkojcbjaeeaaStepLaw18
import Derived.Test.YtnlnkojcbjaeeaaSorted18
import Derived.Deep.LoopGhost
namespace Go.Proofs.Ytnlnkojcbjaeeaa
set_option linter.unusedVariables false
set_option linter.unusedSimpArgs false
set_option linter.unusedSectionVars false
open Go.RowKit
set_option linter.unusedVariables false
theorem Own.lowerQ {w0 w : World} {L : List Ent} {base : Nat} {v : Value} {l : List Dg} (h : Own w0 w L) (i : Nat) (he : L[i]? = some (qE base v l)) : Own w0 w (L.set i (qE w0.heap.size v l)) := by
  refine h.turn he (queueE_good _ _ _ _) ?_ rfl
  obtain ⟨hall, ho⟩ := h.que i he
  refine ⟨hall, ?_⟩
  rcases ho with ho | ⟨g, o, cap, cur, hv, hb, x⟩
  · exact .inl ho
  · exact .inr ⟨g, o, cap, cur, hv, h.le i he (k := g) (by show v.ownBlock = some g; rw [hv]; rfl), x⟩
set_option maxRecDepth 100000 in
set_option maxHeartbeats 2000000 in
theorem reach_any (w0 w : World) (G M : Nat) (kv : KV) (ns : Nodes) (L : List Ent) (A : Option Addr) (c : Nat) (roots : List Dg) (hS : Own w0 w (gE G M :: mapE M kv :: L)) (he : EdgesIn L kv ns) (hl : ∀ p ∈ ns, p.2.length ≤ 4096) (hn : ns.length ≤ 4096)
    (hR : Rows32 w A c roots) (hrl : roots.length ≤ 4096) (hp : pot ns (roots, []) ≤ 100000) :
    Calls Try.prog 16 #[.pointer (some ⟨G, 0, none⟩), .slice A roots.length c] w fun e w' => ∃ v R, e = .returned v ∧ R.Perm (reachB ns roots) ∧ Rising R ∧ Own w0 w' (rowsE w0.heap.size 30 v R :: gE G M :: mapE M kv :: L) := by
  have k1 := mark_any w G A c roots hR hrl
  have HE := Lib.hid he
  have HL := Lib.hid hl
  have HN := Lib.hid hn
  have HP := Lib.hid hp
  clear he hl hn hp hR hrl
  go_enter Try.func16, Try.ntmps16
  go_wp2_with fail
  refine k1.mono ?_
  rintro e w1 ⟨K, B, v, rfl, hT⟩
  have hS1 := (hS.join hT).lowerQ 2 rfl
  simp only [List.cons_append, List.nil_append, List.set_cons_zero, List.set_cons_succ] at hS1
  clear hT hS k1
  go_wp2_with fail
  go_loopg [] 100000 (fun k wr => ∃ (v : Value) (blk : KV) (gray : List Dg) (j : Nat), Units blk ∧ pot ns (gray, keysOf blk) ≤ k ∧ k ≤ 100000 ∧ (gray, keysOf blk) = stepM ns j (roots, []) ∧ Own w0 wr (mkL K G M B w0.heap.size v blk gray kv L))
  case atStart => exact ⟨v, [], roots, 0, (by intro p hp; cases hp), HP.out, by omega, rfl, hS1⟩
  case round =>
    clear hS1 v
    obtain ⟨v, blk, gray, j, hU, hpk, hk, hst, hS⟩ := hrel
    have k2 := step_any w0 wr K G M B w0.heap.size v blk gray kv ns L 1024 (Nat.le_refl _) (by omega) hU HE.out HL.out (by omega) hS
    have HPK := Lib.hid hpk
    have HK := Lib.hid hk
    have HST := Lib.hid hst
    clear hU hpk hk hst hS
    obtain ⟨res, hres⟩ : ∃ res, res = stepM ns (1024 : Int).toNat (gray, keysOf blk) := ⟨_, rfl⟩
    rw [← hres] at k2
    have hres2 : res = stepM ns (j + 1024) (roots, []) := by rw [hres, HST.out, stepM_add]; rfl
    have HRES := Lib.hid hres
    have HRES2 := Lib.hid hres2
    clear hres hres2
    obtain ⟨tb, htb⟩ : ∃ tb, decide (res.1 = []) = tb := ⟨_, rfl⟩
    rw [htb] at k2
    have HTB := Lib.hid htb
    clear htb
    go_wp2_with fail
    refine k2.mono ?_
    rintro e w2 ⟨v2, blk2, rfl, hU2, hk2, hS2⟩
    have HU2 := Lib.hid hU2
    have HK2 := Lib.hid hk2
    have HS2 := Lib.hid hS2
    clear hU2 hk2 hS2 k2
    cases tb with
    | true =>
      have h0 : res.1 = [] := of_decide_eq_true HTB.out
      have hfin : keysOf blk2 = reachB ns roots := by
        rw [HK2.out, HRES2.out]
        unfold reachB
        rw [stepM_end ns (roots, []) _ (by rw [← HRES2.out]; exact h0)]
      have hM := HS2.out.map 1 rfl
      have hlen : blk2.length ≤ 4096 := by
        have h1 := nodup_len (m := ns.map (·.1)) hM.nodup (fun x hx => edgesOf_mem (step_black ns (j + 1024) (roots, []) (by simp) x (by rw [← HRES2.out, ← HK2.out]; exact hx)))
        simp at h1
        exact Nat.le_trans h1 HN.out
      have k3 := sortedB_any B blk2 w2 hM hlen
      have hfin' : blk2.map (·.1) = reachB ns roots := hfin
      rw [hfin'] at k3
      have cK := (HS2.out.mkr 0 rfl).cell 2
      simp at cK
      clear h0 hfin hfin' hM hlen
      go_wp2_with fail
      refine k3.mono ?_
      rintro e w3 ⟨v3, R, rfl, q1, q2, hT⟩
      have hS3 := (HS2.out.join hT).lower 0 rfl
      simp only [List.cons_append, List.nil_append, List.set_cons_zero, List.set_cons_succ] at hS3
      have HS3 := Lib.hid (hS3.sub ((((List.Sublist.refl _).cons _).cons _).cons _ |>.cons_cons _))
      have HQ := Lib.hid (And.intro q1 q2)
      clear hT hS3 q1 q2 k3
      go_wp2
      go_ret
      exact ⟨_, _, rfl, HQ.out.1, HQ.out.2, HS3.out⟩
    | false =>
      have h0 : res.1 ≠ [] := of_decide_eq_false HTB.out
      have hlt : pot ns res + 1 ≤ pot ns (gray, keysOf blk) := by rw [HRES.out]; exact pot_step_lt ns _ _ (by decide) (by rw [← HRES.out]; exact h0)
      have hpr : pot ns res < gk := by have := HPK.out; omega
      have hk3 : pot ns res ≤ 100000 := by have := HPK.out; have := HK.out; omega
      have HX := Lib.hid (And.intro hpr hk3)
      clear h0 hlt hpr hk3
      go_wp2
      go_roundg (pot ns res)
      case rel => exact ⟨v2, blk2, res.1, j + 1024, HU2.out, by rw [HK2.out]; exact Nat.le_refl _, HX.out.2, by rw [HK2.out]; exact HRES2.out, HS2.out⟩
      case measure => exact HX.out.1
end Go.Proofs.Ytnlnkojcbjaeeaa
