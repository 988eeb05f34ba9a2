/- Regions that draw: several operations are ready at once, none of them pure: each order is walked. -/
import Derived.Test.YtpohjldhbaalbaaMix2
namespace Go.Proofs.Ytpohjldhbaalbaa
set_option linter.unusedVariables false
set_option linter.unusedSimpArgs false
set_option linter.unusedSectionVars false
section
variable {P : Program} {ops : Array Oper} {C : World → Prop} {keeps : Nat → Bool} {md : Region.Mode}

theorem run_load_cell {w : World} {o : Oper} {a : Act} (ty : TypeId) (x : Operand) (ho : o.op = .load ty x) {d : TypeDesc} (hu : P.underlying ty = some d) (hd : isAggD d = false) (ad : Addr) (hx : a.eval x = .pointer (some ad)) (v : Value)
    (hc : w.cell? ad = some v) : (execOp a.eval o).run P w = .ok (.value v) w := by
  simp [execOp, ho, hx, Instr.loadAt, Instr.sureAddr, loadVar, Sem.run_bind, run_isAgg_no w hu hd, hc]

inductive Plan where
  | stop
  | one (i : Nat) (r : Plan)
  | two (i : Nat) (r : Plan) (j : Nat) (s : Plan)
  | three (i : Nat) (r : Plan) (j : Nat) (s : Plan) (k : Nat) (t : Plan)
def planB (md : Region.Mode) (ops : Array Oper) : Plan → Nat → Array Bool → Bool
  | .stop, n, listed => n == 0 && (Region.ready md ops listed).isEmpty
  | .one i r, n, listed => match n with | 0 => false | n + 1 => Region.ready md ops listed == [i] && planB md ops r n (listed.setIfInBounds i true)
  | .two i r j s, n, listed => match n with | 0 => false | n + 1 => Region.ready md ops listed == [i, j] && planB md ops r n (listed.setIfInBounds i true) && planB md ops s n (listed.setIfInBounds j true)
  | .three i r j s k t, n, listed => match n with | 0 => false | n + 1 => Region.ready md ops listed == [i, j, k] && planB md ops r n (listed.setIfInBounds i true) && planB md ops s n (listed.setIfInBounds j true) && planB md ops t n (listed.setIfInBounds k true)
def wpPlan (P : Program) (ops : Array Oper) (C : World → Prop) (keeps : Nat → Bool) (Kn : Act → World → Prop) : Plan → Act → World → Prop
  | .stop, a, w => Kn a w
  | .one i r, a, w => wpOp P ops (OnlyNormal Kn) i (fun a' w' => (keeps i = true → C w') ∧ wpPlan P ops C keeps Kn r a' w') a w
  | .two i r j s, a, w => wpOp P ops (OnlyNormal Kn) i (fun a' w' => (keeps i = true → C w') ∧ wpPlan P ops C keeps Kn r a' w') a w ∧
      wpOp P ops (OnlyNormal Kn) j (fun a' w' => (keeps j = true → C w') ∧ wpPlan P ops C keeps Kn s a' w') a w
  | .three i r j s k t, a, w => wpOp P ops (OnlyNormal Kn) i (fun a' w' => (keeps i = true → C w') ∧ wpPlan P ops C keeps Kn r a' w') a w ∧
      wpOp P ops (OnlyNormal Kn) j (fun a' w' => (keeps j = true → C w') ∧ wpPlan P ops C keeps Kn s a' w') a w ∧
      wpOp P ops (OnlyNormal Kn) k (fun a' w' => (keeps k = true → C w') ∧ wpPlan P ops C keeps Kn t a' w') a w

theorem wpAny_plan {Kn : Act → World → Prop} : ∀ (p : Plan) (n : Nat) (listed : Array Bool) (a : Act) (w : World), planB md ops p n listed = true → wpPlan P ops C keeps Kn p a w → wpAnyC P md ops C keeps Kn n listed a w
  | .stop, n, listed, a, w, hB, h => by
    simp only [planB, Bool.and_eq_true, beq_iff_eq] at hB
    obtain ⟨rfl, hB⟩ := hB
    exact ⟨by simpa using hB, h⟩
  | .one i r, n, listed, a, w, hB, h => by
    cases n with
    | zero => simp [planB] at hB
    | succ n =>
      simp only [planB, Bool.and_eq_true, beq_iff_eq] at hB
      refine ⟨fun h0 => (by rw [hB.1] at h0; cases h0), fun j hj => ?_⟩
      rw [hB.1] at hj
      obtain rfl : j = i := by simpa using hj
      exact wpOp_mono (fun a' w' h' => ⟨h'.1, wpAny_plan r n _ a' w' hB.2 h'.2⟩) h
  | .two i r j s, n, listed, a, w, hB, h => by
    cases n with
    | zero => simp [planB] at hB
    | succ n =>
      simp only [planB, Bool.and_eq_true, beq_iff_eq] at hB
      obtain ⟨⟨hr, h1⟩, h2⟩ := hB
      refine ⟨fun h0 => (by rw [hr] at h0; cases h0), fun k hk => ?_⟩
      rw [hr] at hk
      rcases (by simpa using hk : k = i ∨ k = j) with rfl | rfl
      · exact wpOp_mono (fun a' w' h' => ⟨h'.1, wpAny_plan r n _ a' w' h1 h'.2⟩) h.1
      · exact wpOp_mono (fun a' w' h' => ⟨h'.1, wpAny_plan s n _ a' w' h2 h'.2⟩) h.2
  | .three i r j s k t, n, listed, a, w, hB, h => by
    cases n with
    | zero => simp [planB] at hB
    | succ n =>
      simp only [planB, Bool.and_eq_true, beq_iff_eq] at hB
      obtain ⟨⟨⟨hr, h1⟩, h2⟩, h3⟩ := hB
      refine ⟨fun h0 => (by rw [hr] at h0; cases h0), fun l hl => ?_⟩
      rw [hr] at hl
      rcases (by simpa using hl : l = i ∨ l = j ∨ l = k) with rfl | rfl | rfl
      · exact wpOp_mono (fun a' w' h' => ⟨h'.1, wpAny_plan r n _ a' w' h1 h'.2⟩) h.1
      · exact wpOp_mono (fun a' w' h' => ⟨h'.1, wpAny_plan s n _ a' w' h2 h'.2⟩) h.2.1
      · exact wpOp_mono (fun a' w' h' => ⟨h'.1, wpAny_plan t n _ a' w' h3 h'.2⟩) h.2.2
/-- pure operations first, then the plan -/
def preB (md : Region.Mode) (ops : Array Oper) (keeps : Nat → Bool) (p : Plan) (n : Nat) : List Nat → Array Bool → Bool
  | [], listed => planB md ops p n listed
  | i :: r, listed => (Region.ready md ops listed).contains i && Region.free md ops listed i && waitsAll md ops keeps i && preB md ops keeps p n r (listed.setIfInBounds i true)
theorem wpAny_pre {Kn : Act → World → Prop} (hs : Region.noSelect ops = true) (p : Plan) (n : Nat) : ∀ (l : List Nat) (listed : Array Bool) (a : Act) (w : World), C w → preB md ops keeps p n l listed = true →
    wpMix P ops C keeps (fun a w => wpPlan P ops C keeps Kn p a w) (l.map fun i => (i, true)) a w → wpAnyC P md ops C keeps Kn (l.length + n) listed a w
  | [], listed, a, w, _, hB, h => by
    rw [List.length_nil, Nat.zero_add]
    exact wpAny_plan p n listed a w hB h
  | i :: r, listed, a, w, hC, hB, h => by
    simp only [preB, Bool.and_eq_true] at hB
    obtain ⟨⟨⟨hr, hf⟩, hw⟩, hB'⟩ := hB
    obtain ⟨o, v, ho, hy, hK⟩ := h
    rw [List.length_cons, show r.length + 1 + n = (r.length + n) + 1 by omega]
    exact wpAny_first ho (Region.noSelect_spec hs) (r.length + n) listed a w (Region.free_spec ho hf) (waitsAll_spec hw) hC (by simpa using hr) hy (wpAny_pre hs p n r _ _ w hC hB' hK)
theorem wp_region_plan {id : Nat} {Q : Exit → Act → World → Prop} {a : Act} {w : World} (C : World → Prop) (keeps : Nat → Bool) (l : List Nat) (p : Plan) (n : Nat) (hm : P.follows .mixedOrders = true)
    (hB : (Region.noSelect ops && l.length + n == ops.size && preB .any ops keeps p n l (Array.replicate ops.size false)) = true) (hC : C w.drew)
    (h : wpMix P ops C keeps (fun a w => wpPlan P ops C keeps (Q .normal) p a w) (l.map fun i => (i, true)) a w.drew) : (Code.region id ops true).wp P Q a w := by
  simp only [Bool.and_eq_true, beq_iff_eq] at hB
  refine wp_region_any hm (wpAny_ofC (C := C) (keeps := keeps) _ _ _ _ ?_)
  rw [← hB.1.2]
  refine wpAny_pre hB.1.1 p n l _ a _ hC ?_ h
  rw [hB.1.2]; exact hB.2

def PlanNext (P : Program) (ops : Array Oper) (C : World → Prop) (keeps : Nat → Bool) (i : Nat) (Kn : Act → World → Prop) (r : Plan) (a : Act) (w : World) : Prop := (keeps i = true → C w) ∧ wpPlan P ops C keeps Kn r a w
theorem wpOp_list {Kn : Act → World → Prop} {i : Nat} {r : Plan} {a : Act} {w : World} (o : Oper) (ho : ops[i]? = some o) (hg : Region.wanted o (yielded ops a.tmps) = true)
    (h : wpList P ops (OnlyNormal (PlanNext P ops C keeps i Kn r)) [o] a w) : wpOp P ops (OnlyNormal Kn) i (fun a' w' => (keeps i = true → C w') ∧ wpPlan P ops C keeps Kn r a' w') a w := by
  unfold wpOp
  simp only [ho, wpList] at h ⊢
  simp only [hg, if_true] at h ⊢
  rcases h with h | ⟨_, a, w, hx⟩
  · left
    exact wp_onlyNormal (fun a w h => h) h
  · exact hx.elim
theorem wpPlan_one {Kn : Act → World → Prop} {i : Nat} {r : Plan} {a : Act} {w : World} (o : Oper) (ho : ops[i]? = some o) (hg : Region.wanted o (yielded ops a.tmps) = true)
    (h : wpList P ops (OnlyNormal (PlanNext P ops C keeps i Kn r)) [o] a w) : wpPlan P ops C keeps Kn (.one i r) a w := wpOp_list o ho hg h
theorem wpPlan_two {Kn : Act → World → Prop} {i j : Nat} {r s : Plan} {a : Act} {w : World} (o p : Oper) (ho : ops[i]? = some o) (hg : Region.wanted o (yielded ops a.tmps) = true) (hp : ops[j]? = some p) (hq : Region.wanted p (yielded ops a.tmps) = true)
    (h : wpList P ops (OnlyNormal (PlanNext P ops C keeps i Kn r)) [o] a w) (h2 : wpList P ops (OnlyNormal (PlanNext P ops C keeps j Kn s)) [p] a w) : wpPlan P ops C keeps Kn (.two i r j s) a w := ⟨wpOp_list o ho hg h, wpOp_list p hp hq h2⟩
theorem wpPlan_three {Kn : Act → World → Prop} {i j k : Nat} {r s t : Plan} {a : Act} {w : World} (o p q : Oper) (ho : ops[i]? = some o) (hg : Region.wanted o (yielded ops a.tmps) = true) (hp : ops[j]? = some p) (hg2 : Region.wanted p (yielded ops a.tmps) = true) (hq : ops[k]? = some q) (hg3 : Region.wanted q (yielded ops a.tmps) = true)
    (h : wpList P ops (OnlyNormal (PlanNext P ops C keeps i Kn r)) [o] a w) (h2 : wpList P ops (OnlyNormal (PlanNext P ops C keeps j Kn s)) [p] a w) (h3 : wpList P ops (OnlyNormal (PlanNext P ops C keeps k Kn t)) [q] a w) : wpPlan P ops C keeps Kn (.three i r j s k t) a w := ⟨wpOp_list o ho hg h, wpOp_list p hp hg2 h2, wpOp_list q hq hg3 h3⟩
theorem wpPlan_next {i : Nat} {Kn : Act → World → Prop} {r : Plan} {a : Act} {w : World} (hC : keeps i = true → C w) (h : wpPlan P ops C keeps Kn r a w) : OnlyNormal (PlanNext P ops C keeps i Kn r) .normal a w := ⟨hC, h⟩
end
end Go.Proofs.Ytpohjldhbaalbaa
