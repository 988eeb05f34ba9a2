/- slices.AppendSeq(nil, seq), slices.Collect(seq) of sums, against whatever iterator value. -/
import Derived.Test.YtnlnkojcbjaeeaaKeys18
namespace Go.Proofs.Ytnlnkojcbjaeeaa
set_option linter.unusedVariables false
set_option linter.unusedSimpArgs false
set_option linter.unusedSectionVars false
open Go.RowKit
set_option linter.unusedVariables false
/-- block k holds just this object -/
def objE (k : Nat) (o : Obj) : Ent := ⟨some k, fun w => w.heap[k]? = some o⟩
theorem objE_good (k : Nat) (o : Obj) : (objE k o).good :=
  ⟨fun _ _ _ h hg hr => (hg.block k (Array.getElem?_eq_some_iff.1 h).1 (by rcases hr with hr | hr; · cases hr
                                                                           · exact hr)).trans h, fun _ h j hj => by cases hj; exact (Array.getElem?_eq_some_iff.1 h).1⟩
/-- the entry's block, if any, is no walk's object -/
def Ent.still (e : Ent) : Prop := ∀ w, e.P w → ∀ k, e.blk = some k → ∃ o : Obj, w.heap[k]? = some o ∧ o.isWalk = false
theorem objE_still {k : Nat} {o : Obj} (h : o.isWalk = false) : (objE k o).still := fun w hw j hj => by cases hj; exact ⟨o, hw, h⟩
theorem rowE_still (g : Nat) (t : TypeId) (cs : List Value) : (rowE g t cs).still := fun w hw j hj => by cases hj; exact ⟨_, hw, rfl⟩
theorem rowsE_still (base : Nat) (e : TypeId) (v : Value) (L : List Dg) : (rowsE base e v L).still := fun w hw j hj => by
  rcases hw.2.2 with ⟨rfl, _⟩ | ⟨g, cap, cur, rfl, _, hgb, _⟩
  · cases hj
  · cases hj; exact ⟨_, hgb, rfl⟩
theorem Own.abide {w0 W W' : World} {L : List Ent} {row : Option Nat} (h : Own w0 W L) (hs : ∀ e ∈ L, e.still) (hg : W.grownBy W' row) (hr : ∀ r, row = some r → w0.heap.size ≤ r ∧ ∃ o : Obj, W.heap[r]? = some o ∧ o.isWalk = true) : Own w0 W' L := by
  have hne : ∀ e ∈ L, e.blk = none ∨ e.blk ≠ row := by
    intro e he
    cases hb : e.blk with
    | none => exact .inl rfl
    | some k =>
      refine .inr fun hk => ?_
      obtain ⟨_, o, ho, hw⟩ := hr k hk.symm
      obtain ⟨o', ho', hw'⟩ := hs e he W (h.good e he).2.1 k hb
      rw [ho] at ho'; cases ho'; rw [hw] at hw'; cases hw'
  have hg0 : w0.grownBy W' none := by
    cases row with
    | none => exact grownBy_trans h.grown hg
    | some r => exact grownBy_in h.grown hg (hr r rfl).1
  exact ⟨hg0, fun e he => ⟨(h.good e he).1, (h.good e he).1.1 _ _ row (h.good e he).2.1 hg (hne e he), (h.good e he).2.2⟩, h.apart⟩
theorem Own.walks {w0 W W' : World} {L : List Ent} {e : Ent} (h : Own w0 W L) (i : Nat) (he : L[i]? = some e) (hs : e.still) (hg : W.grownBy W' e.blk) : KeepsWalks W W' :=
  KeepsWalks.of_grownBy hg fun j o hj ho => by
    obtain ⟨o', ho', hw'⟩ := hs W (h.at_ i he) j hj
    rw [ho] at ho'; cases ho'; exact hw'
theorem walks_none {W W' : World} (hg : W.grownBy W' none) : KeepsWalks W W' := KeepsWalks.of_grownBy hg fun j o hj => by cases hj
theorem grownBy_put (W : World) (l : Nat) (o : Obj) : W.grownBy (W.putObj l o) (some l) := ⟨rfl, rfl, rfl, by simp, fun k _ hk => World.putObj_heap_other (fun e => hk (by rw [e]))⟩
theorem Own.obj {w0 w : World} {L : List Ent} {k : Nat} {o : Obj} (h : Own w0 w L) (i : Nat) (he : L[i]? = some (objE k o)) : w.heap[k]? = some o := h.at_ i he

/-- the two codes of AppendSeq's range over its function: read off the program -/
def ApCodes (ac bd : Code) : Prop := ∃ a b c d e f, Try.f50.body = some (.seq a (.seq (.seq b (.block c (.rangeFunc d e ac bd))) f))
def apRec (ac bd : Code) (fn : FuncId) (sv : Value) (Bs D : Nat) (st : LoopState) (pend : Option Code) : Loop :=
  { state := st, pending := pend, fn, tmps := #[.slice none 0 0, sv, .pointer (some ⟨Bs, 0, none⟩), undef, .slice none 0 0, undef, sv, undef, undef, undef, undef, undef, undef], params := #[7], assign := ac, body := bd, defers := D }
def ApAt (ac bd : Code) (w0 : World) (fn : FuncId) (sv : Value) (Bs l D : Nat) (ss : List D32) (W : World) : Prop :=
  ∃ v, Own w0 W [objE l (.loop (apRec ac bd fn sv Bs D .ready none)), rowE Bs 32 [v], rowsE w0.heap.size 30 v (ss.map (·.1)), objE D (.deferred (some []))]
theorem ap_abides (ac bd : Code) (w0 : World) (fn : FuncId) (sv : Value) (Bs l D B : Nat) (hB : w0.heap.size ≤ B) : AbidesFrom B (ApAt ac bd w0 fn sv Bs l D) := fun s W W' row h hg hrow => by
  obtain ⟨v, hS⟩ := h
  refine ⟨v, hS.abide ?_ hg (fun r e => ⟨Nat.le_trans hB (hrow r e).1, (hrow r e).2⟩)⟩
  intro e he
  simp only [List.mem_cons, List.not_mem_nil, or_false] at he
  rcases he with rfl | rfl | rfl | rfl
  · exact objE_still rfl
  · exact rowE_still _ _ _
  · exact rowsE_still _ _ _ _
  · exact objE_still rfl

set_option maxRecDepth 100000 in
set_option maxHeartbeats 2000000 in
theorem apYield (ac bd : Code) (hc : ApCodes ac bd) (F : Fence) (m : Nat) (w0 : World) (fn : FuncId) (hfn : F.fn fn) (sv : Value) (Bs l D : Nat)
    (N : Nat) (hN : N ≤ 4096) (ss : List D32) (x : D32) (W : World) (h : ApAt ac bd w0 fn sv Bs l D ss W) (hlen : ss.length < N) :
    YieldAt F m Try.prog l #[encV x] W fun e W' => e = .returned (.bool true) ∧ ApAt ac bd w0 fn sv Bs l D (ss ++ [x]) W' ∧ KeepsWalks W W' := by
  obtain ⟨v, hS⟩ := h
  obtain ⟨ca, cb, cc, cd, ce, cf, hc⟩ := hc
  have hc2 : Try.f50.body = some _ := rfl
  rw [hc2] at hc
  simp only [Option.some.injEq, Code.seq.injEq, Code.block.injEq, Code.rangeFunc.injEq] at hc
  obtain ⟨-, ⟨-, -, -, -, hc3, hc4⟩, -⟩ := hc
  have hL := hS.obj 0 rfl
  refine ⟨fn, #[.slice none 0 0, sv, .pointer (some ⟨Bs, 0, none⟩), undef, .slice none 0 0, undef, sv, encV x, undef, undef, undef, undef, undef], ac, bd, by simpa [apRec] using run_yield (P := Try.prog) (args := #[encV x]) hL rfl, roundIn_of_wpIn hfn ?_⟩
  obtain ⟨R, hR⟩ : ∃ R : Ending → World → Prop, R = fun e W' => e = .returned (.bool true) ∧ ApAt ac bd w0 fn sv Bs l D (ss ++ [x]) W' ∧ KeepsWalks W W' := ⟨_, rfl⟩
  rw [← hR]
  have HR := Lib.hid hR
  clear hR
  rw [← hc3]
  have HC4 := Lib.hid hc4
  clear hc3 hc4 hc2 ca cb cc cd ce cf hL
  obtain ⟨G, hG⟩ : ∃ G, G = ss.map (·.1) := ⟨_, rfl⟩
  rw [← hG] at hS
  obtain ⟨A, c, rfl, -, -⟩ := ownsR_open (hS.rows 2 rfl)
  obtain ⟨k, hk⟩ := x
  have HK := Lib.hid hk
  have HX := Lib.hid (show encV ⟨k, hk⟩ = .agg (c8 k).toArray from rfl)
  rw [HX.out]
  have HLEN := Lib.hid (show G.length + 1 ≤ 4096 by rw [hG]; simp; omega)
  have HG := Lib.hid hG
  clear hlen hG
  gi_wp2_with (refine wi_alloc rfl 30 rfl _ alloc_d ?_)
  intro w1 hr hg hz
  clear hz
  have hS1 := hS.new hr hg
  have hk1 := walks_none hg
  clear hr hg hS
  gi_wp2_with (refine wi_storeAgg rfl 30 (.tmp 5) (.tmp 7) rfl W.heap.size 0 30 zd (c8 k) rfl rfl (hS1.row 0 rfl) (info_dg k HK.out) (by rw [c8_length, HK.out]; decide) (one8 _) ?_)
  intro w2 hr hg hz
  clear hz
  rw [splice_all (by rw [c8_length, HK.out]; decide)] at hr
  have hS2 := hS1.setRow 0 rfl hr hg
  have hk2 := hk1.trans (hS1.walks 0 rfl (rowE_still _ _ _) hg)
  clear hr hg hS1 hk1
  gi_wp2
  simp only [List.set_cons_zero] at hS2
  have hL2 := hS2.obj 1 rfl
  refine ⟨_, run_beginRound (P := Try.prog) hL2 rfl, ?_⟩
  have hl2 : l < w2.heap.size := (Array.getElem?_eq_some_iff.1 hL2).1
  obtain ⟨w3, hw3⟩ : ∃ w3, w2.putObj l (.loop { apRec ac bd fn sv Bs D .ready none with state := .busy }) = w3 := ⟨_, rfl⟩
  have hS3 := hS2.write (w' := w3) (e' := objE l (.loop { apRec ac bd fn sv Bs D .ready none with state := .busy })) 1 rfl (objE_good _ _) (by rw [← hw3]; exact World.putObj_heap_same hl2) (by rw [← hw3]; exact grownBy_put _ _ _) (.inl rfl)
  have hk3 := hk2.trans (hS2.walks 1 rfl (objE_still rfl) (show w2.grownBy w3 (some l) by rw [← hw3]; exact grownBy_put _ _ _))
  simp only [List.set_cons_zero, List.set_cons_succ] at hS3
  have e3 : w2.putObj l (.loop { apRec ac bd fn sv Bs D .ready none with state := .busy }) = w3 := hw3
  first | rw [e3] | skip
  clear hL2 hl2 hS2 hk2 hw3 e3
  rw [← HC4.out]
  have c1 := (hS3.row 2 rfl).cell 0
  have f1 := (hS3.row 2 rfl).frozen 0
  simp at c1
  have hs3 := hS3.size
  gi_wp2_with (first | (refine wi_load rfl 30 (.tmp 5) rfl Try.underlying30 rfl ⟨W.heap.size, 0, none⟩ rfl (c8 k) (info_dg k HK.out) (row_all (hS3.row 0 rfl)) ?_) | (refine wi_built1 rfl 32 (.tmp 9) rfl 30 Try.underlying32 32 info_zd (by omega) (by omega) (c8 k) (by rw [c8_length, HK.out]) rfl ?_) | (rw [Oper.semAt_eq _ _ _ (fun c h => by cases h)]; go_simp; try go_bits))
  intro w4 hr hg
  have hS4 := hS3.new hr hg
  have hk4 := hk3.trans (walks_none hg)
  clear hg hS3 hk3 c1 f1 hs3
  gi_wp2_with (first | (refine wi_appR rfl (.tmp 8) (.tmp 10) 32 rfl 30 Try.underlying32 info_rd G rfl (hS4.rows 4 rfl) ⟨w3.heap.size, 0, none⟩ 1 k rfl HK.out (row_all hr) (by have := HLEN.out; omega) hS4.size ?_) | (rw [Oper.semAt_eq _ _ _ (fun c h => by cases h)]; go_simp; try go_bits))
  intro v' w5 ho hg hv
  have hS5 := hS4.appendR 4 rfl ho hg hv
  have hk5 := hk4.trans (hS4.walks 4 rfl (rowsE_still _ _ _ _) hg)
  simp only [List.set_cons_zero, List.set_cons_succ] at hS5
  obtain ⟨A', c', rfl, -, -⟩ := ownsR_open ho
  clear hr ho hg hv hS4 hk4
  have c1 := (hS5.row 3 rfl).cell 0
  have f1 := (hS5.row 3 rfl).frozen 0
  simp at c1
  gi_wp2_with (rw [Oper.semAt_eq _ _ _ (fun c h => by cases h)]; go_simp; try go_bits)
  have hS6 := hS5.set 3 rfl 0 (.slice A' (G ++ [k]).length c')
  have hk6 := hk5.trans (KeepsWalks.setCell w5 ⟨Bs, 0, none⟩ (.slice A' (G ++ [k]).length c'))
  simp only [List.set_cons_zero, List.set_cons_succ] at hS6
  rw [show (Value.slice A' (G.length + 1) c') = .slice A' (G ++ [k]).length c' by rw [List.length_append]; rfl]
  have hL6 := hS6.obj 2 rfl
  have hl6 := (Array.getElem?_eq_some_iff.1 hL6).1
  refine ⟨_, _, run_endRound none hL6, ?_⟩
  rw [HR.out]
  refine ⟨rfl, ⟨.slice A' (G ++ [k]).length c', ?_⟩, hk6.trans (KeepsWalks.putObj _ hL6 rfl)⟩
  have hS7 := hS6.write (e' := objE l (.loop (apRec ac bd fn sv Bs D .ready none))) 2 rfl (objE_good _ _) (World.putObj_heap_same hl6) (grownBy_put _ _ _) (.inl rfl)
  simp only [List.set_cons_zero, List.set_cons_succ] at hS7
  have hS8 := hS7.tail.tail
  rw [show (ss ++ [(⟨k, hk⟩ : D32)]).map (·.1) = G ++ [k] by rw [HG.out]; simp]
  exact hS8
abbrev apTmps (sv : Value) (Bs : Nat) : Array Value := #[.slice none 0 0, sv, .pointer (some ⟨Bs, 0, none⟩), undef, .slice none 0 0, undef, sv, undef, undef, undef, undef, undef, undef]
set_option maxHeartbeats 2000000 in
theorem ap_range (ac bd : Code) (hc : ApCodes ac bd) (F : Fence) (n : Nat) (hro : F.round = none) (hn : 2 ≤ n) (g : Nat) (lb : Array Value) (hFg : F.fn g) (eg : ∀ args w, (callFunc g args).run Try.prog w = .ok (.enter g args) w)
    (S : List D32 → Prop) (N : Nat) (hN : N ≤ 4096) (w : World) (hseq : SeqGives F (n - 1) Try.prog g lb encV S N w) (Q : Exit → Act → World → Prop)
    (hQ : ∀ v ss W3, S ss → Own w W3 [rowE w.heap.size 32 [v], rowsE w.heap.size 30 v (ss.map (·.1)), objE (w.heap.size + 1) (.deferred (some []))] →
      Q .normal { tmps := apTmps (.func (.func g) #[] lb) w.heap.size, defers := [{ target := .collected (w.heap.size + 1), args := #[] }] } W3) :
    (Code.rangeFunc (.tmp 6) #[7] ac bd).wpIn F n Try.prog Q { tmps := apTmps (.func (.func g) #[] lb) w.heap.size, defers := [] } (w.alloc (.cells #[.slice none 0 0] 32)) := by
  have h1 : 1 ≤ n := by omega
  refine wpIn_rangeFunc ?_
  intro fn hfn
  rw [hro]
  obtain ⟨W0, hW0⟩ : ∃ W0, w.alloc (.cells #[.slice none 0 0] 32) = W0 := ⟨_, rfl⟩
  have hs0 : W0.heap.size = w.heap.size + 1 := by rw [← hW0]; simp
  have hS0 : Own w W0 [rowE w.heap.size 32 [.slice none 0 0], rowsE w.heap.size 30 (.slice none 0 0) []] := by
    rw [← hW0]
    exact ((Own.start w).nilR w.heap.size 30).alloc 32 [.slice none 0 0]
  rw [hW0]
  have hS1 := hS0.newE (w' := W0.alloc (.deferred (some []))) (e := objE W0.heap.size (.deferred (some []))) (World.grownBy_alloc _ _ none) (objE_good _ _) (World.alloc_heap_new W0 _) (fun k hk => by cases hk; exact Nat.le_refl _)
  have hS2 := hS1.newE (w' := (W0.alloc (.deferred (some []))).alloc (.loop (apRec ac bd fn (.func (.func g) #[] lb) w.heap.size W0.heap.size .ready none))) (e := objE (W0.heap.size + 1) (.loop (apRec ac bd fn (.func (.func g) #[] lb) w.heap.size W0.heap.size .ready none)))
    (World.grownBy_alloc _ _ none) (objE_good _ _) (by have := World.alloc_heap_new (W0.alloc (.deferred (some []))) (.loop (apRec ac bd fn (.func (.func g) #[] lb) w.heap.size W0.heap.size .ready none)); rwa [World.size_alloc] at this) (fun k hk => by cases hk; simp)
  obtain ⟨W1, hW1⟩ : ∃ W1, (W0.alloc (.deferred (some []))).alloc (.loop (apRec ac bd fn (.func (.func g) #[] lb) w.heap.size W0.heap.size .ready none)) = W1 := ⟨_, rfl⟩
  rw [hW1] at hS2
  have hM : ApAt ac bd w fn (.func (.func g) #[] lb) w.heap.size (W0.heap.size + 1) W0.heap.size [] W1 :=
    ⟨.slice none 0 0, hS2.perm (List.Perm.cons _ ((List.Perm.swap _ _ _).trans (List.Perm.cons _ (List.Perm.swap _ _ _))))⟩
  have hb1 : Below w.heap.size w W1 := grownBy_below hS2.grown
  refine ⟨W0.heap.size + 1, [{ target := .collected W0.heap.size, args := #[] }], W1, { target := .fn (.func g) lb, args := #[.func (.yield (W0.heap.size + 1)) #[] #[]] }, W1, g,
    #[.func (.yield (W0.heap.size + 1)) #[] #[]] ++ lb, W1, ?_, ?_, ?_, ?_, fun _ => h1, ?_⟩
  · rw [← hW1]; exact run_enterLoop_outer _ _ _ _ _
  · simp [resolve, go_sem]
  · intro f' hf'; simp [Target.leads] at hf'; subst hf'; exact hFg
  · simp [invoke, go_sem, eg]
  · refine (hseq (W0.heap.size + 1) (ApAt ac bd w fn (.func (.func g) #[] lb) w.heap.size (W0.heap.size + 1) W0.heap.size) W1 hb1 (ap_abides ac bd _ _ _ _ _ _ _ hb1.size)
      (fun pre x W hJ hl => apYield ac bd hc F (n - 1 - 1) w fn hfn _ w.heap.size (W0.heap.size + 1) W0.heap.size N hN pre x W hJ hl) hM).mono ?_
    rintro e W2 ⟨⟨v0, rfl⟩, ss, hS, v, h2⟩
    have hL2 := h2.obj 0 rfl
    have hend := run_endLoop (P := Try.prog) hL2 (by simp [apRec])
    refine ⟨none, _, hend, ?_⟩
    have h3 := (h2.write (e' := objE (W0.heap.size + 1) (.loop { apRec ac bd fn (.func (.func g) #[] lb) w.heap.size W0.heap.size .ready none with state := .exhausted })) 0 rfl (objE_good _ _) (World.putObj_heap_same (Array.getElem?_eq_some_iff.1 hL2).1) (grownBy_put _ _ _) (.inl rfl)).tail
    rw [hs0] at h3 ⊢
    exact hQ v ss _ hS h3
set_option maxRecDepth 100000 in
set_option maxHeartbeats 2000000 in
theorem appendSeq_in (F : Fence) (n : Nat) (hf : F.fn 50) (hro : F.round = none) (hn : 2 ≤ n) (g : Nat) (lb : Array Value) (hFg : F.fn g) (eg : ∀ args w, (callFunc g args).run Try.prog w = .ok (.enter g args) w)
    (S : List D32 → Prop) (N : Nat) (hN : N ≤ 4096) (w : World) (hseq : SeqGives F (n - 1) Try.prog g lb encV S N w) :
    CallsIn F n Try.prog 50 #[.slice none 0 0, .func (.func g) #[] lb] w fun e w' => ∃ (v : Value) (ss : List D32), e = .returned v ∧ S ss ∧ Own w w' [rowsE w.heap.size 30 v (ss.map (·.1))] := by
  refine callsIn_of_wp_marks Try.func50 rfl hf ?_ hro
  simp only [Try.ntmps50, List.size_toArray, List.length_cons, List.length_nil, Nat.reduceAdd, Nat.reduceSub, Array.replicate_succ, Array.replicate_zero, List.push_toArray, List.append_toArray, List.nil_append, List.cons_append]
  gi_wp2
  refine ap_range _ _ ⟨_, _, _, _, _, _, rfl⟩ F n hro hn g lb hFg eg S N hN w hseq _ ?_
  intro v ss W3 hS h3
  have c1 := (h3.row 0 rfl).cell 0
  have f1 := (h3.row 0 rfl).frozen 0
  simp at c1
  have hK3 := h3.obj 2 rfl
  gi_wp2
  refine ⟨by simp, .inl ⟨_, _, rfl, run_takeDeferred hK3, ?_⟩⟩
  refine ⟨_, results_tmp rfl _ _ _, v, ss, rfl, hS, ?_⟩
  exact ((h3.write (e' := anyE (w.heap.size + 1)) 2 rfl (anyE_good _) (by show _ < (W3.putObj _ _).heap.size; simpa using (Array.getElem?_eq_some_iff.1 hK3).1) (grownBy_put _ _ _) (.inl rfl)).tail.sub (List.cons_sublist_cons.2 (List.nil_sublist _)))
set_option maxHeartbeats 1000000 in
theorem collect_in (F : Fence) (n : Nat) (hf : F.fn 46) (hf2 : F.fn 50) (hro : F.round = none) (hn : 3 ≤ n) (g : Nat) (lb : Array Value) (hFg : F.fn g) (eg : ∀ args w, (callFunc g args).run Try.prog w = .ok (.enter g args) w)
    (S : List D32 → Prop) (N : Nat) (hN : N ≤ 4096) (w : World) (hseq : SeqGives F (n - 1 - 1) Try.prog g lb encV S N w) :
    CallsIn F n Try.prog 46 #[.func (.func g) #[] lb] w fun e w' => ∃ (v : Value) (ss : List D32), e = .returned v ∧ S ss ∧ Own w w' [rowsE w.heap.size 30 v (ss.map (·.1))] := by
  have h1 : 1 ≤ n := by omega
  refine callsIn_of_wp Try.func46 rfl hf ?_ hro
  simp only [Try.ntmps46, List.size_toArray, List.length_cons, List.length_nil, Nat.reduceAdd, Nat.reduceSub, Array.replicate_succ, Array.replicate_zero, List.push_toArray, List.append_toArray, List.nil_append, List.cons_append]
  gi_wp2_with (gi_at_call 50; refine (appendSeq_in F (n - 1) hf2 hro (by omega) g lb hFg eg S N hN _ hseq).mono ?_; rintro e w' ⟨v, ss, rfl, hS, h3⟩)
  go_ret
  exact ⟨v, ss, rfl, hS, h3⟩
end Go.Proofs.Ytnlnkojcbjaeeaa
