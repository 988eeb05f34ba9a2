/- A region that draws its order, some of whose operations are pure (they yield the same value in every world), while of the others at each moment only one is ready: one walk serves every order. No program in sight. -/
import Derived.Still
import Derived.Tactics
import Derived.KernelRfl
namespace Go.Proofs.Ytpohjldhbaalbaa
set_option linter.unusedVariables false
set_option linter.unusedSimpArgs false
set_option linter.unusedSectionVars false
open Go

section
variable {P : Program} {ops : Array Oper} {md : Region.Mode} {C : World → Prop} {keeps : Nat → Bool}

/-- Only the normal end. -/
def OnlyNormal (K : Act → World → Prop) : Exit → Act → World → Prop
  | .normal, a, w => K a w
  | _, _, _ => False

theorem wp_onlyNormal {o : Oper} {a : Act} {w : World} {K K' : Act → World → Prop} {Kn : Act → World → Prop} {Q : Exit → Act → World → Prop} (h : ∀ a w, K a w → K' a w)
    (hh : o.wp P a w K (OnlyNormal Kn)) : o.wp P a w K' Q := by
  unfold Oper.wp at *
  generalize (execOp a.eval o).run P w = r at *
  cases r with
  | ok n w' =>
    cases n <;> simp only [Oper.upon] at hh ⊢
    case value u => exact h _ _ hh
    case skip => exact h _ _ hh
    case defer d => exact h _ _ hh
    case enter f args =>
      refine hh.mono fun e w'' he => ?_
      cases e with
      | returned v => exact h _ _ he
      | panicked c => exact he.elim
      | outgrown => obtain ⟨a, w, hx⟩ := he; exact hx.elim
    case row r args => exact hh.mono fun _ _ he => h _ _ he
  | halt x w' => cases x <;> simp only [Oper.upon] at hh ⊢ <;> exact hh.elim

theorem wpOp_onlyNormal {i : Nat} {a : Act} {w : World} {K K' : Act → World → Prop} {Kn : Act → World → Prop} {Q : Exit → Act → World → Prop} (h : ∀ a w, K a w → K' a w)
    (hh : wpOp P ops (OnlyNormal Kn) i K a w) : wpOp P ops Q i K' a w := by
  unfold wpOp at *
  split
  · exact h _ _ (by simpa [*] using hh)
  · rename_i o ho
    simp only [ho] at hh
    split
    · rename_i hw
      simp only [hw, if_true] at hh
      rcases hh with hh | ⟨_, a, w, hx⟩
      · exact .inl (wp_onlyNormal h hh)
      · exact hx.elim
    · rename_i hw; simp only [hw] at hh; exact h _ _ hh

/-- Whatever order is picked from here on; each operation ends normally and in a world of the class C. -/
def wpAnyC (P : Program) (md : Region.Mode) (ops : Array Oper) (C : World → Prop) (keeps : Nat → Bool) (Kn : Act → World → Prop) : Nat → Array Bool → Act → World → Prop
  | 0, listed, a, w => Region.ready md ops listed = [] ∧ Kn a w
  | fuel + 1, listed, a, w =>
    (Region.ready md ops listed = [] → Kn a w) ∧
    ∀ i ∈ Region.ready md ops listed, wpOp P ops (OnlyNormal Kn) i (fun a' w' => (keeps i = true → C w') ∧ wpAnyC P md ops C keeps Kn fuel (listed.setIfInBounds i true) a' w') a w

theorem wpAny_ofC {C : World → Prop} {keeps : Nat → Bool} {Q : Exit → Act → World → Prop} : ∀ (fuel : Nat) (listed : Array Bool) (a : Act) (w : World),
    wpAnyC P md ops C keeps (Q .normal) fuel listed a w → wpAny P md ops Q fuel listed a w
  | 0, _, _, _, h => h
  | fuel + 1, _, _, _, h => ⟨h.1, fun i hi => wpOp_onlyNormal (fun a w h' => wpAny_ofC fuel _ a w h'.2) (h.2 i hi)⟩

/-- In state a, in every world, the operation yields v and leaves the world alone. -/
def PureAt (P : Program) (ops : Array Oper) (C : World → Prop) (o : Oper) (v : Value) (a : Act) : Prop :=
  (Region.wanted o (yielded ops a.tmps) = true ∧ ∀ w, C w → (execOp a.eval o).run P w = .ok (.value v) w) ∨ (Region.wanted o (yielded ops a.tmps) = false ∧ v = undef)

theorem PureAt.of_same {o : Oper} {v : Value} {a a' : Act} (hy : PureAt P ops C o v a) (he : execOp a'.eval o = execOp a.eval o)
    (hw : Region.wanted o (yielded ops a'.tmps) = Region.wanted o (yielded ops a.tmps)) : PureAt P ops C o v a' := by
  unfold PureAt at *
  rw [he, hw]; exact hy

theorem PureAt.wpOp {i : Nat} {o : Oper} {v : Value} {a : Act} {w : World} (hC : C w) (hi : ops[i]? = some o) (hy : PureAt P ops C o v a) {K : Act → World → Prop} {Q : Exit → Act → World → Prop} (h : K (a.put o.dst v) w) :
    wpOp P ops Q i K a w := by
  unfold Go.wpOp
  simp only [hi]
  rcases hy with ⟨hw, hr⟩ | ⟨hw, rfl⟩
  · simp only [hw, if_true]
    left
    unfold Oper.wp
    rw [hr w hC]
    exact h
  · simp only [hw, Bool.false_eq_true, if_false]; exact h

theorem put_defers (a : Act) (x : Option Tmp) (v : Value) (d : Deferred) : ({ a.put x v with defers := d :: (a.put x v).defers } : Act) = ({ a with defers := d :: a.defers } : Act).put x v := by
  cases x <;> rfl

theorem wpOp_put {j : Nat} {oi oj : Oper} {v : Value} (hj : ops[j]? = some oj) (hap : oi.apart ops oj = true)
    (hsi : ∀ cs b, oi.op ≠ .select cs b) (hsj : ∀ cs b, oj.op ≠ .select cs b) {K Kn : Act → World → Prop} {a : Act} {w : World}
    (hy : PureAt P ops C oi v a) (h : wpOp P ops (OnlyNormal Kn) j K (a.put oi.dst v) w) :
    wpOp P ops (OnlyNormal Kn) j (fun a' w' => PureAt P ops C oi v a' ∧ K (a'.put oi.dst v) w') a w := by
  obtain ⟨h1, h2, h3⟩ := Oper.apart_spec hap
  have keep : ∀ (a : Act), PureAt P ops C oi v a → ∀ u, PureAt P ops C oi v (a.put oj.dst u) := fun a hy u =>
    hy.of_same (execOp_put oi hsi a oj.dst u h3) (wanted_put oi a oj.dst u h3)
  have keepd : ∀ (a : Act) (d : Deferred), PureAt P ops C oi v a → PureAt P ops C oi v ({ a with defers := d :: a.defers } : Act) := fun a d hy => hy
  unfold Go.wpOp at *
  simp only [hj] at *
  rw [wanted_put oj a oi.dst v h1] at h
  split
  · rename_i hw
    simp only [hw, if_true] at h
    rcases h with h | ⟨_, a, w, hx⟩
    · left
      unfold Oper.wp at *
      rw [execOp_put oj hsj a oi.dst v h1] at h
      generalize (execOp a.eval oj).run P w = r at *
      cases r with
      | ok n w' =>
        cases n <;> simp only [Oper.upon] at h ⊢
        case value u => exact ⟨keep a hy u, by rw [← Act.put_comm a v u h2]; exact h⟩
        case skip => exact ⟨keep a hy _, by rw [← Act.put_comm a v undef h2]; exact h⟩
        case defer d =>
          refine ⟨keep _ (keepd a d hy) _, ?_⟩
          rw [put_defers] at h
          rw [← Act.put_comm _ v undef h2]; exact h
        case enter f args =>
          refine h.mono fun e w'' he => ?_
          cases e with
          | returned u => exact ⟨keep a hy u, by rw [← Act.put_comm a v u h2]; exact he⟩
          | panicked c => exact he.elim
          | outgrown => exact he
        case row r args => exact h.mono fun u _ he => ⟨keep a hy u, by rw [← Act.put_comm a v u h2]; exact he⟩
      | halt x w' => cases x <;> simp only [Oper.upon] at h ⊢ <;> exact h.elim
    · exact hx.elim
  · rename_i hw
    simp only [hw] at h
    exact ⟨keep a hy _, by rw [← Act.put_comm a v undef h2]; exact h⟩

theorem wpAny_first {Kn : Act → World → Prop} {i : Nat} {oi : Oper} {v : Value} (hi : ops[i]? = some oi) (hsel : ∀ (j : Nat) (o : Oper) cs b, ops[j]? = some o → o.op ≠ .select cs b) :
    ∀ (fuel : Nat) (listed : Array Bool) (a : Act) (w : World),
      (∀ j oj, ops[j]? = some oj → j ≠ i → listed.getD j true = false → (∀ e ∈ oj.after, Region.binds md e = true → e.on ≠ i) → oi.apart ops oj = true) →
      (∀ j oj, ops[j]? = some oj → keeps j = false → ∃ e ∈ oj.after, Region.binds md e = true ∧ e.on = i) →
      C w → i ∈ Region.ready md ops listed → PureAt P ops C oi v a →
      wpAnyC P md ops C keeps Kn fuel (listed.setIfInBounds i true) (a.put oi.dst v) w → wpAnyC P md ops C keeps Kn (fuel + 1) listed a w := by
  intro fuel
  induction fuel with
  | zero =>
    intro listed a w _ _ hC hr hy H
    refine ⟨fun h => (by rw [h] at hr; cases hr), fun j hj => ?_⟩
    by_cases hji : j = i
    · subst hji; exact hy.wpOp hC hi ⟨fun _ => hC, H⟩
    · have := ready_mono hj hji
      rw [H.1] at this
      cases this
  | succ fuel ih =>
    intro listed a w hfree hk hC hr hy H
    refine ⟨fun h => (by rw [h] at hr; cases hr), fun j hj => ?_⟩
    by_cases hji : j = i
    · subst hji; exact hy.wpOp hC hi ⟨fun _ => hC, H⟩
    · have h1 := H.2 j (ready_mono hj hji)
      obtain ⟨hjun, oj, hoj, hall⟩ := mem_ready.1 hj
      have hnot : ∀ e ∈ oj.after, Region.binds md e = true → e.on ≠ i := fun e he hb heq => by
        have h1 := hall e he hb
        have h0 := (mem_ready.1 hr).1
        rw [heq] at h1
        rcases Nat.lt_or_ge i listed.size with h' | h'
        · simp [h'] at h0 h1; rw [h0] at h1; cases h1
        · simp [Array.getElem?_eq_none h'] at h1
      have h2 := wpOp_put hoj (hfree j oj hoj hji hjun hnot) (fun cs b => hsel i oi cs b hi) (fun cs b => hsel j oj cs b hoj) hy h1
      have hfree' : ∀ k ok, ops[k]? = some ok → k ≠ i → (listed.setIfInBounds j true).getD k true = false →
          (∀ e ∈ ok.after, Region.binds md e = true → e.on ≠ i) → oi.apart ops ok = true := fun k ok hk hki hun hno => by
        refine hfree k ok hk hki ?_ hno
        by_cases hjk : j = k
        · subst hjk; exact hjun
        · rw [getD_set_ne true hjk] at hun; exact hun
      have hkj : keeps j = true := by
        cases hq : keeps j with
        | true => rfl
        | false =>
          obtain ⟨e, he, hb, ho⟩ := hk j oj hoj hq
          exact absurd ho (hnot e he hb)
      refine wpOp_mono (fun a' w' h3 => ⟨h3.2.1, ih (listed.setIfInBounds j true) a' w' hfree' hk (h3.2.1 hkj) (ready_mono hr (Ne.symm hji)) h3.1 ?_⟩) h2
      rw [Array.setIfInBounds_comm _ _ hji]
      exact h3.2.2

/-- every operation that does not keep the class waits for operation i -/
def waitsAll (md : Region.Mode) (ops : Array Oper) (keeps : Nat → Bool) (i : Nat) : Bool :=
  (List.range ops.size).all fun j => keeps j || (match ops[j]? with | some oj => oj.after.toList.any fun e => Region.binds md e && e.on == i | none => true)
theorem waitsAll_spec {i : Nat} (h : waitsAll md ops keeps i = true) : ∀ j oj, ops[j]? = some oj → keeps j = false → ∃ e ∈ oj.after, Region.binds md e = true ∧ e.on = i := by
  intro j oj hj hk
  have hlt : j < ops.size := (Array.getElem?_eq_some_iff.1 hj).1
  have h1 := List.all_eq_true.1 h j (List.mem_range.2 hlt)
  simp only [hk, Bool.false_or, hj, List.any_eq_true, Bool.and_eq_true, beq_iff_eq] at h1
  obtain ⟨e, he, hb⟩ := h1
  exact ⟨e, by simpa using he, hb⟩

/-- The order in which the walk goes: an operation's number, and whether it is met as a pure one. -/
def mixB (md : Region.Mode) (ops : Array Oper) (keeps : Nat → Bool) : List (Nat × Bool) → Array Bool → Bool
  | [], listed => (Region.ready md ops listed).isEmpty
  | (i, p) :: r, listed => (if p then (Region.ready md ops listed).contains i && Region.free md ops listed i && waitsAll md ops keeps i else Region.ready md ops listed == [i] && (keeps i || r.all fun x => !x.2)) && mixB md ops keeps r (listed.setIfInBounds i true)

def wpMix (P : Program) (ops : Array Oper) (C : World → Prop) (keeps : Nat → Bool) (Kn : Act → World → Prop) : List (Nat × Bool) → Act → World → Prop
  | [], a, w => Kn a w
  | (i, true) :: r, a, w => ∃ o v, ops[i]? = some o ∧ PureAt P ops C o v a ∧ wpMix P ops C keeps Kn r (a.put o.dst v) w
  | (i, false) :: r, a, w => wpOp P ops (OnlyNormal Kn) i (fun a' w' => (keeps i = true → C w') ∧ wpMix P ops C keeps Kn r a' w') a w

theorem wpAny_mix {Kn : Act → World → Prop} (hs : Region.noSelect ops = true) : ∀ (l : List (Nat × Bool)) (listed : Array Bool) (a : Act) (w : World),
    (l.any (fun x => x.2) = true → C w) → mixB md ops keeps l listed = true → wpMix P ops C keeps Kn l a w → wpAnyC P md ops C keeps Kn l.length listed a w
  | [], _, _, _, _, hB, h => ⟨by simpa [mixB] using hB, h⟩
  | (i, true) :: r, listed, a, w, hC, hB, h => by
    simp only [mixB, if_true, Bool.and_eq_true] at hB
    obtain ⟨⟨⟨hr, hf⟩, hw⟩, hB'⟩ := hB
    obtain ⟨o, v, ho, hy, hK⟩ := h
    have hCw : C w := hC (by simp)
    exact wpAny_first ho (Region.noSelect_spec hs) r.length listed a w (Region.free_spec ho hf) (waitsAll_spec hw) hCw (by simpa using hr) hy (wpAny_mix hs r _ _ w (fun _ => hCw) hB' hK)
  | (i, false) :: r, listed, a, w, hC, hB, h => by
    simp only [mixB, Bool.false_eq_true, if_false, Bool.and_eq_true, beq_iff_eq] at hB
    obtain ⟨⟨hr, hk⟩, hB'⟩ := hB
    refine ⟨fun h0 => (by rw [hr] at h0; cases h0), fun j hj => ?_⟩
    rw [hr] at hj
    obtain rfl : j = i := by simpa using hj
    refine wpOp_mono (fun a' w' h' => ⟨h'.1, wpAny_mix hs r _ a' w' (fun hp => ?_) hB' h'.2⟩) h
    rcases Bool.or_eq_true _ _ ▸ hk with hk | hk
    · exact h'.1 hk
    · obtain ⟨x, hx, hx2⟩ := List.any_eq_true.1 hp
      have := List.all_eq_true.1 hk x hx
      simp [hx2] at this

theorem wp_region_mixC {id : Nat} {Q : Exit → Act → World → Prop} {a : Act} {w : World} (C : World → Prop) (keeps : Nat → Bool) (l : List (Nat × Bool)) (hm : P.follows .mixedOrders = true)
    (hB : (Region.noSelect ops && l.length == ops.size && mixB .any ops keeps l (Array.replicate ops.size false)) = true) (hC : C w.drew)
    (h : wpMix P ops C keeps (Q .normal) l a w.drew) : (Code.region id ops true).wp P Q a w := by
  simp only [Bool.and_eq_true, beq_iff_eq] at hB
  refine wp_region_any hm (wpAny_ofC (C := C) (keeps := keeps) _ _ _ _ ?_)
  rw [← hB.1.2]
  refine wpAny_mix hB.1.1 l _ a _ (fun _ => hC) ?_ h
  rw [hB.1.2]; exact hB.2
def AnyWorld (_ : World) : Prop := True
def allKeep (_ : Nat) : Bool := true
theorem wp_region_mix {id : Nat} {Q : Exit → Act → World → Prop} {a : Act} {w : World} (l : List (Nat × Bool)) (hm : P.follows .mixedOrders = true)
    (hB : (Region.noSelect ops && l.length == ops.size && mixB .any ops allKeep l (Array.replicate ops.size false)) = true)
    (h : wpMix P ops AnyWorld allKeep (Q .normal) l a w.drew) : (Code.region id ops true).wp P Q a w := wp_region_mixC AnyWorld allKeep l hm hB trivial h

theorem wpMix_pure {Kn : Act → World → Prop} {i : Nat} {r : List (Nat × Bool)} {a : Act} {w : World} {o : Oper} (v : Value) (ho : ops[i]? = some o) (hg : o.guard = none)
    (hr : ∀ W, C W → (execOp a.eval o).run P W = .ok (.value v) W) (h : wpMix P ops C keeps Kn r (a.put o.dst v) w) : wpMix P ops C keeps Kn ((i, true) :: r) a w :=
  ⟨o, v, ho, .inl ⟨by simp [Region.wanted, hg], hr⟩, h⟩
theorem wpMix_skip {Kn : Act → World → Prop} {i : Nat} {r : List (Nat × Bool)} {a : Act} {w : World} (o : Oper) (ho : ops[i]? = some o)
    (hg : Region.wanted o (yielded ops a.tmps) = false) (h : wpMix P ops C keeps Kn r (a.put o.dst undef) w) : wpMix P ops C keeps Kn ((i, true) :: r) a w :=
  ⟨o, undef, ho, .inr ⟨hg, rfl⟩, h⟩
/-- What stands behind a loud operation. -/
def MixNext (P : Program) (ops : Array Oper) (C : World → Prop) (keeps : Nat → Bool) (i : Nat) (Kn : Act → World → Prop) (r : List (Nat × Bool)) (a : Act) (w : World) : Prop := (keeps i = true → C w) ∧ wpMix P ops C keeps Kn r a w
theorem wpMix_loud {Kn : Act → World → Prop} {i : Nat} {r : List (Nat × Bool)} {a : Act} {w : World} (o : Oper) (ho : ops[i]? = some o) (hg : o.guard = none)
    (h : wpList P ops (OnlyNormal (MixNext P ops C keeps i Kn r)) [o] a w) : wpMix P ops C keeps Kn ((i, false) :: r) a w := by
  show wpOp P ops (OnlyNormal Kn) i (fun a' w' => (keeps i = true → C w') ∧ wpMix P ops C keeps Kn r a' w') a w
  unfold wpOp
  simp only [ho, wpList] at h ⊢
  have hw : Region.wanted o (yielded ops a.tmps) = true := by simp [Region.wanted, hg]
  simp only [hw, if_true] at h ⊢
  rcases h with h | ⟨_, a, w, hx⟩
  · left
    exact wp_onlyNormal (fun a w h => h) h
  · exact hx.elim

/-- What is asked of a pure operation, in the form that the walk's simp runs. -/
def pureUpon (W : World) (v : Value) : Result Next → Prop
  | .ok (.value u) w' => w' = W ∧ u = v
  | _ => False
def pureIn (P : Program) (o : Oper) (a : Act) (K : Act → Prop) : Prop := ∃ v, (∀ W : World, pureUpon W v ((execOp a.eval o).run P W)) ∧ K (a.put o.dst v)
theorem pureUpon_value (W : World) (v u : Value) : pureUpon W v (.ok (.value u) W) = (u = v) := by simp [pureUpon]

theorem wpMix_step {Kn : Act → World → Prop} {i : Nat} {r : List (Nat × Bool)} {a : Act} {w : World} {o : Oper} (ho : ops[i]? = some o)
    (h : ∀ K : Act → Prop, (∀ a', wpMix P ops C keeps Kn r a' w → K a') → if Region.wanted o (yielded ops a.tmps) then pureIn P o a K else K (a.put o.dst undef)) : wpMix P ops C keeps Kn ((i, true) :: r) a w := by
  have h' := h _ (fun _ h => h)
  by_cases hw : Region.wanted o (yielded ops a.tmps) = true
  · rw [if_pos hw] at h'
    obtain ⟨v, hv, hk⟩ := h'
    refine ⟨o, v, ho, .inl ⟨hw, fun W _ => ?_⟩, hk⟩
    have := hv W
    generalize (execOp a.eval o).run P W = x at *
    cases x with
    | ok n w' =>
      cases n <;> simp only [pureUpon] at this
      rw [this.1, this.2]
    | halt x w' => simp only [pureUpon] at this
  · rw [if_neg hw] at h'
    exact ⟨o, undef, ho, .inr ⟨by simpa using hw, rfl⟩, h'⟩
attribute [go_sem] pureIn pureUpon_value

theorem wpMix_end {i : Nat} {Kn : Act → World → Prop} {a : Act} {w : World} (hC : keeps i = true → C w) (h : Kn a w) : wpList P ops (OnlyNormal (MixNext P ops C keeps i Kn [])) [] a w := ⟨hC, h⟩
theorem wpMix_next {i : Nat} {Kn : Act → World → Prop} {r : List (Nat × Bool)} {a : Act} {w : World} (hC : keeps i = true → C w) (h : wpMix P ops C keeps Kn r a w) : wpList P ops (OnlyNormal (MixNext P ops C keeps i Kn r)) [] a w := ⟨hC, h⟩
theorem wpMix_next' {i : Nat} {Kn : Act → World → Prop} {r : List (Nat × Bool)} {a : Act} {w : World} (hC : keeps i = true → C w) (h : wpMix P ops C keeps Kn r a w) : OnlyNormal (MixNext P ops C keeps i Kn r) .normal a w := ⟨hC, h⟩
end
end Go.Proofs.Ytpohjldhbaalbaa
