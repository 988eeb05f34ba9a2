/- The law's does: one step of a script, done to both. -/
import Derived.Test.YtnlnkojcbjaeeaaLook18
import Derived.Test.YtnlnkojcbjaeeaaOpenOp18
namespace Go.Proofs.Ytnlnkojcbjaeeaa
set_option linter.unusedVariables false
set_option linter.unusedSimpArgs false
set_option linter.unusedSectionVars false
open Go.RowKit
set_option linter.unusedVariables false
abbrev plL (w0 : World) (G M K B Rr : Nat) (v rv gv bv : Value) (blk kv rkv : KV) (gray : List Dg) (L : List Ent) : List Ent :=
  kE K G v B :: mapE B blk :: qE w0.heap.size v gray :: gE G M :: mapE M kv :: rE Rr gv bv :: qR w0.heap.size gv gray :: bR w0.heap.size bv (keysOf blk) :: nodesE w0.heap.size rv rkv :: L
structure Pl (w0 w : World) (G M K B Rr : Nat) (v rv gv bv : Value) (blk kv rkv : KV) (gray : List Dg) (ns lr : Nodes) (L : List Ent) (k : Nat) : Prop where
  un : Units blk
  ag : Agree ns lr
  low : Low ns
  rlow : Low lr
  len : ns.length ≤ k
  rlen : lr.length ≤ k
  gl : gray.length ≤ 800 * k
  bl : (keysOf blk).length ≤ 100 * k
  ed : EdgesIn L kv ns
  er : EdgesR L rkv lr
  own : Own w0 w (plL w0 G M K B Rr v rv gv bv blk kv rkv gray L)
def Pst (w0 w : World) (G M K Rr : Nat) (rv : Value) (k : Nat) : Prop := ∃ B v gv bv blk kv rkv gray ns lr L, Pl w0 w G M K B Rr v rv gv bv blk kv rkv gray ns lr L k
theorem Own.swapAB {w0 w : World} {A B L : List Ent} (h : Own w0 w (A ++ (B ++ L))) : Own w0 w (B ++ (A ++ L)) :=
  h.perm (by rw [← List.append_assoc, ← List.append_assoc]; exact List.perm_append_comm.append_right L)
theorem Own.cut {w0 w : World} {A B L : List Ent} (h : Own w0 w (A ++ (B ++ L))) : Own w0 w (A ++ L) := h.sub ((List.Sublist.refl A).append (List.sublist_append_right B L))
theorem Own.pickT {w0 w : World} {P T L' : List Ent} (h : Own w0 w (P ++ T)) (is : List Nat) (hn : is.Nodup) (he : L'.map some = is.map (fun i => P[i]?)) : Own w0 w (L' ++ T) := by
  have hap := h.apart
  rw [List.pairwise_append] at hap
  obtain ⟨hP, hT, hPT⟩ := hap
  have hsub : ∀ x ∈ L', x ∈ P := by
    intro x hx
    have h1 : some x ∈ L'.map some := List.mem_map_of_mem hx
    rw [he] at h1
    obtain ⟨i, _, hi⟩ := List.mem_map.1 h1
    exact List.mem_of_getElem? hi
  refine ⟨h.grown, fun e hm => ?_, List.pairwise_append.2 ⟨?_, hT, fun x hx y hy => hPT x (hsub x hx) y hy⟩⟩
  · rcases List.mem_append.1 hm with hm | hm
    · exact h.good e (List.mem_append_left _ (hsub e hm))
    · exact h.good e (List.mem_append_right _ hm)
  · clear hT hPT hsub h
    induction L' generalizing is with
    | nil => exact List.Pairwise.nil
    | cons x L' ih =>
      cases is with
      | nil => simp at he
      | cons i is =>
        rw [List.map_cons, List.map_cons, List.cons.injEq] at he
        obtain ⟨hn1, hn2⟩ := List.nodup_cons.1 hn
        refine List.Pairwise.cons (fun y hy => ?_) (ih is hn2 he.2)
        have h1 : some y ∈ L'.map some := List.mem_map_of_mem hy
        rw [he.2] at h1
        obtain ⟨j, hj, hj2⟩ := List.mem_map.1 h1
        exact pair_get apart_symm hP he.1.symm hj2 (fun e => hn1 (by rw [e]; exact hj))
/-! ### how many sums may still become black -/
def unc (ns : Nodes) (blk : List Dg) : Nat := ns.countP (fun p => decide (p.1 ∉ blk))
theorem unc_le (ns : Nodes) (blk : List Dg) : unc ns blk ≤ ns.length := List.countP_le_length
theorem unc_mono (blk : List Dg) (d : Dg) (ns : Nodes) : unc ns (blk ++ [d]) ≤ unc ns blk := by
  refine List.countP_mono_left fun p _ h => ?_
  have h1 : p.1 ∉ blk ++ [d] := of_decide_eq_true h
  exact decide_eq_true fun h2 => h1 (List.mem_append_left _ h2)
theorem unc_new (blk : List Dg) (d : Dg) (hd : d ∉ blk) : ∀ (ns : Nodes), (edgesOf ns d).isSome = true → unc ns (blk ++ [d]) + 1 ≤ unc ns blk
  | [], h => by simp [edgesOf] at h
  | p :: ns, h => by
    by_cases h2 : p.1 = d
    · have := unc_mono blk d ns
      unfold unc at *
      rw [List.countP_cons, List.countP_cons, if_neg (by simp [h2]), if_pos (by rw [h2]; exact decide_eq_true hd)]
      omega
    · rw [edgesOf_cons, if_neg h2] at h
      have ih := unc_new blk d hd ns h
      unfold unc at *
      rw [List.countP_cons, List.countP_cons]
      by_cases h1 : p.1 ∈ blk
      · rw [if_neg (by simp [h1]), if_neg (by simp [h1])]; omega
      · rw [if_pos (by simp [h1, h2]), if_pos (by simp [h1])]; omega
theorem look_unc (ns : Nodes) (m : Mk) : (lookM ns m).2.length + unc ns (lookM ns m).2 ≤ m.2.length + unc ns m.2 := by
  obtain ⟨g, b⟩ := m
  cases g with
  | nil => exact Nat.le_refl _
  | cons d g =>
    by_cases hd : d ∈ b
    · rw [lookM_old ns d g b hd]; exact Nat.le_refl _
    · cases he : edgesOf ns d with
      | none => rw [lookM_none ns d g b he]; exact Nat.le_refl _
      | some l =>
        rw [lookM_new ns d g b l he hd]
        have := unc_new b d hd ns (by rw [he]; rfl)
        show (b ++ [d]).length + unc ns (b ++ [d]) ≤ b.length + unc ns b
        rw [List.length_append, List.length_singleton]
        omega
theorem step_unc (ns : Nodes) : ∀ (n : Nat) (m : Mk), (stepM ns n m).2.length + unc ns (stepM ns n m).2 ≤ m.2.length + unc ns m.2
  | 0, m => Nat.le_refl _
  | n + 1, m => Nat.le_trans (step_unc ns n (lookM ns m)) (look_unc ns m)
/-- a slice of sums that is not empty: the whole block behind it -/
theorem ownsR_block {w : World} {base n c : Nat} {e : TypeId} {A : Option Addr} {L : List Dg} (h : OwnsR w base e (.slice A n c) L) (hn : 0 < n) : ∃ g cs, A = some ⟨g, 0, none⟩ ∧ Row w g e cs ∧ n * 32 ≤ cs.length := by
  obtain ⟨hall, hl, ho⟩ := h
  rcases ho with ⟨hv, hz⟩ | ⟨g, cap, cur, hv, hb, hg, hnc, hcm, hcs, ht⟩
  · injection hv with h1 h2 h3
    omega
  · injection hv with h1 h2 h3
    subst h1; subst h3
    refine ⟨g, cur.toList, rfl, by unfold Row; simpa using hg, ?_⟩
    have := congrArg List.length ht
    rw [List.length_take, c8_length, flatten_len hall] at this
    omega
theorem Own.block {w0 w : World} {L : List Ent} {base g n c : Nat} {t : TypeId} {l : List Dg} {cs : List Value} (h : Own w0 w (rowsE base t (.slice (some ⟨g, 0, none⟩) n c) l :: L)) (hr : Row w g t cs) : Own w0 w (rowE g t cs :: L) :=
  h.turn (i := 0) (e' := rowE g t cs) rfl (rowE_good _ _ _) hr rfl
theorem splice_len {cs vs : List Value} {off : Nat} (h : off + vs.length ≤ cs.length) : (splice cs off vs).length = cs.length := by
  simp only [splice, List.length_append, List.length_take, List.length_drop]; omega
def d99 : Dg := 99 :: List.replicate 31 0
theorem built99 : Try.prog.built 30 [(0, .int .u8 99)] = some (c8 d99).toArray := by kernel_rfl
theorem d99_len : d99.length = 32 := by decide
theorem results_tmp3 {fn : Func} {t u v : Tmp} (h : fn.results = #[.tmp t, .tmp u, .tmp v]) (tmps : Array Value) (P : Program) (w : World) :
    (results fn tmps).run P w = .ok (.tuple #[tmps.getD t undef, tmps.getD u undef, tmps.getD v undef]) w := by
  simp [results, h]
theorem built_mk (A : Option Addr) (n c : Nat) : Try.prog.built 56 [(0, .slice A n c)] = some ([.slice A n c, .slice none 0 0] : List Value).toArray := by kernel_rfl
theorem info_mk : (Try.prog.info? 56).map (·.size) = some 2 := by kernel_rfl
def opC (k : Int) (d : UInt8) (B : Option Addr) (l c : Nat) (n : Int) : List Value := [.int .i64 k, .int .u8 (n8 d), .slice B l c, .int .i64 n]
set_option maxRecDepth 100000 in
set_option maxHeartbeats 8000000 in
theorem does_any (w0 w : World) (G M K B Rr : Nat) (v rv gv bv : Value) (blk kv rkv : KV) (gray : List Dg) (ns lr : Nodes) (L : List Ent) (k : Nat) (hP : Pl w0 w G M K B Rr v rv gv bv blk kv rkv gray ns lr L k) (hk : k < 60)
    (ok on : Int) (od : UInt8) (oto : List UInt8) (OB : Option Addr) (oc : Nat) (hOB : Bytes w0 OB oto) (hoc : oto.length ≤ oc) (hoc2 : oc ≤ 9223372036854775807) (honil : OB = none → oc = 0) (hon : on ≤ 9223372036854775807) (hon2 : -9223372036854775808 ≤ on) :
    Calls Try.prog 23 #[.pointer (some ⟨G, 0, none⟩), .pointer (some ⟨K, 0, none⟩), rv, .pointer (some ⟨Rr, 0, none⟩), .agg (opC ok od OB oto.length oc on).toArray] w fun e w' =>
      ∃ K' rv', e = .returned (.tuple #[.pointer (some ⟨K', 0, none⟩), rv', .bool true]) ∧ Pst w0 w' G M K' Rr rv' (k + 1) := by
  have HU := Lib.hid hP.un
  have HAG := Lib.hid hP.ag
  have HLOW := Lib.hid hP.low
  have HRLOW := Lib.hid hP.rlow
  have HLEN := Lib.hid hP.len
  have HRLEN := Lib.hid hP.rlen
  have HGL := Lib.hid hP.gl
  have HBL := Lib.hid hP.bl
  have HED := Lib.hid hP.ed
  have HER := Lib.hid hP.er
  have hS0 := hP.own
  have HK := Lib.hid hk
  have HOB := Lib.hid hOB
  have HOC := Lib.hid hoc
  have HOC2 := Lib.hid hoc2
  have HON := Lib.hid honil
  have HN1 := Lib.hid hon
  have HN2 := Lib.hid hon2
  clear hP hk hOB hoc hoc2 honil hon hon2
  obtain ⟨d, hd⟩ : ∃ d, d = nodeL od := ⟨_, rfl⟩
  have hnd := node_any od
  rw [← hd] at hnd
  have HNOD := Lib.hid (show ∀ W, Calls Try.prog 10 #[.int .u8 (n8 od)] W fun e w' => e = .returned (.agg (c8 d).toArray) ∧ W.grownBy w' none from hnd)
  have HD := Lib.hid (show d.length = 32 by rw [hd]; exact nodeL_len _)
  obtain ⟨to, hto⟩ : ∃ to, to = nodesL oto := ⟨_, rfl⟩
  have HTO := Lib.hid hto
  have HTL := Lib.hid (show to.length ≤ 12 by rw [hto]; exact nodesL_len oto)
  have HT32 := Lib.hid (show L32 to by rw [hto]; exact nodesL_32 oto)
  clear hnd hd hto
  obtain ⟨An, cn, rfl, -, -⟩ := ownsN_open (hS0.nodes 8 rfl)
  go_enter Try.func23, Try.ntmps23
  go_wp2_with (refine wp_box (o := ⟨some 9, _, _, _, _, _⟩) rfl 51 (.tmp 4) rfl (opC ok od OB oto.length oc on) rfl ?_)
  intro w1 hr hg hz
  clear hz
  have hS1 := hS0.new hr hg
  clear hr hg hS0
  have c1 := (hS1.row 0 rfl).cell 1
  simp [opC] at c1
  go_wp2_with fail
  refine (HNOD.out _).mono ?_
  rintro e w2 ⟨rfl, hg⟩
  have hS2 := hS1.call hg
  clear hg hS1 c1
  go_wp2_with (refine wp_alloc (o := ⟨some 13, _, _, _, _, _⟩) rfl 30 rfl _ alloc_d ?_)
  intro w3 hr hg hz
  clear hz
  have hS3 := hS2.new hr hg
  clear hr hg hS2
  go_wp2_with (refine wp_storeAgg rfl 30 (.tmp 13) (.tmp 23) rfl w2.heap.size 0 30 zd (c8 d) rfl rfl (hS3.row 0 rfl) (info_dg d HD.out) (by rw [c8_length, HD.out]; decide) (one8 _) ?_)
  intro w4 hr hg hz
  clear hz
  rw [splice_all (by rw [c8_length, HD.out]; decide)] at hr
  have hS4 := hS3.setRow 0 rfl hr hg
  simp only [List.set_cons_zero] at hS4
  clear hr hg hS3
  have c2 := (hS4.row 1 rfl).cell 2
  simp [opC] at c2
  go_wp2_with fail
  refine (nodes_any OB oc oto _ (HOB.out.keep hS4.grown) HOC.out HOC2.out HON.out).mono ?_
  rintro e w5 ⟨v5, rfl, ho, hg⟩
  rw [← HTO.out] at ho
  have hS5 := (hS4.madeR ho hg).lower 0 rfl
  simp only [List.set_cons_zero] at hS5
  obtain ⟨At, ct, rfl, hrows, hct⟩ := ownsR_open ho
  have hct2 : (ct : Int) ≤ 9223372036854775807 := by omega
  clear hg hS4 ho c2 hct hrows
  have c0 := (hS5.row 2 rfl).cell 0
  simp [opC] at c0
  have HC3 := Lib.hid (show ∀ W, Own w0 W _ → W.cell? ⟨w.heap.size, 3, none⟩ = some (.int .i64 on) from fun W (hW : Own w0 W (rowsE w0.heap.size 30 (.slice At to.length ct) to :: rowE w2.heap.size 30 (c8 d) :: rowE w.heap.size 51 (opC ok od OB oto.length oc on) :: plL w0 G M K B Rr v (.slice An rkv.length cn) gv bv blk kv rkv gray L)) => (hW.row 2 rfl).cell 3)
  obtain ⟨Ob, hOb⟩ : ∃ x, x = w.heap.size := ⟨_, rfl⟩
  obtain ⟨Db, hDb⟩ : ∃ x, x = w2.heap.size := ⟨_, rfl⟩
  rw [← hOb, ← hDb] at hS5 HC3
  rw [← hOb] at c0
  rw [← hOb, ← hDb]
  clear hOb hDb
  clear HNOD HOB HOC HOC2 HON HTO
  by_cases k0 : ok = 0
  · subst k0
    go_wp2_with (refine wp_load rfl 30 (.tmp 13) rfl Try.underlying30 rfl ⟨Db, 0, none⟩ rfl (c8 d) (info_dg d HD.out) (row_all (hS5.row 1 rfl)) ?_)
    have hr5 := (own_slice (hS5.rows 0 rfl)).2.1
    have hS6 := (hS5.pickT (P := [_, _, _, _, _, _, _, _, _, _, _, _]) (L' := [_, _, _, _, _, _, _, _, _, _, _, _]) [6, 7, 0, 1, 2, 3, 4, 5, 8, 9, 10, 11] (by decide) rfl)
    clear hS5 HC3 c0
    refine (put_st2 w0 _ G M kv ns _ L d At ct to.length to hS6 HED.out HD.out rfl hr5 (by have := HTL.out; omega)).mono ?_
    rintro e w6 ⟨rfl, kv', v6, he6, hS7⟩
    have HE6 := Lib.hid he6
    clear hS6 hr5 he6
    go_wp2_with fail
    have hS8 := hS7.drew
    clear hS7
    refine wp_region_mixC (fun W => Own w0 W _) (fun _ => true) [(0, true), (1, true), (2, true), (3, false), (4, false), (5, false)] (by kernel_rfl) (by kernel_rfl) hS8 ?_
    iterate 1 (refine wpMix_step rfl (fun K hK => ?_); go_simp; (try go_bits); with_reducible refine hK _ ?_; clear hK K)
    refine wpMix_pureW (.agg (c8 d).toArray) rfl rfl (fun W hW => run_load_op 30 (.tmp 13) rfl Try.underlying30 rfl ⟨Db, 0, none⟩ rfl _ (info_dg d HD.out) (row_all (hW.row 4 rfl))) ?_
    iterate 1 (refine wpMix_step rfl (fun K hK => ?_); go_simp; (try go_bits); with_reducible refine hK _ ?_; clear hK K)
    refine wpMix_loudW _ rfl rfl ?_
    go_wp2_with fail
    refine (from_any At ct to _ (own_slice (hS8.rows 3 rfl)).2.1 (by have := HTL.out; omega)).mono ?_
    rintro e w8 ⟨v8, rfl, ho, hg⟩
    have hS9 := hS8.call hg
    obtain ⟨A8, c8', rfl, hrows8, -⟩ := ownsR_open ho
    clear ho hg hS8
    go_wp2_with fail
    refine wpMix_next' (fun _ => hS9) ?_
    have hnd : NdIn w8 An cn rkv := by
      obtain ⟨A', c', hv, h2, -⟩ := ownsN_open (hS9.nodes 12 rfl)
      injection hv with e1 e2 e3
      subst e1; subst e3
      exact h2
    refine wpMix_loudW _ rfl rfl ?_
    go_wp2_with fail
    refine (refPut_any An A8 cn c8' rkv.length to.length rkv d to w8 rfl hnd HD.out (by have := HRLEN.out; have := All2.len HER.out; have := HK.out; omega) rfl hrows8 (by have := HTL.out; omega)).mono ?_
    rintro e w9 ⟨v9, vto, rfl, hT⟩
    have hS10 := (hS9.join hT).lowerN 0 rfl
    simp only [List.cons_append, List.nil_append, List.set_cons_zero, List.set_cons_succ] at hS10
    have hS9' := hS9.call hT.grown
    obtain ⟨base7, hbase7⟩ : ∃ b, b = w8.heap.size := ⟨_, rfl⟩
    rw [← hbase7] at hS10
    clear hS9 hT hrows8 hnd hbase7
    go_wp2_with fail
    refine wpMix_next' (fun _ => hS9') ?_
    refine wpMix_loudW _ rfl rfl ?_
    go_wp2_with fail
    refine wpMix_next' (fun _ => hS9') ?_
    unfold wpMix
    clear hS9'
    have hS11 := (hS10.pickT (P := [_, _, _, _, _, _, _, _, _, _, _, _, _, _, _]) (L' := [_, _, _, _, _, _, _, _, _, _, _, _, _, _]) [5, 8, 9, 10, 2, 3, 11, 12, 13, 0, 1, 4, 6, 7] (by decide) rfl)
    have HE11 : Hid (EdgesIn (rowsE base7 29 vto to :: rowsE w0.heap.size 30 v6 to :: rowE Db 30 (c8 d) :: rowE Ob 51 (opC 0 od OB oto.length oc on) :: L) kv' (putN ns d to)) := Lib.hid (HE6.out.mono (fun e he => by rcases List.mem_cons.1 he with h | h <;> simp [h]))
    have HER11 : Hid (EdgesR (rowsE base7 29 vto to :: rowsE w0.heap.size 30 v6 to :: rowE Db 30 (c8 d) :: rowE Ob 51 (opC 0 od OB oto.length oc on) :: L) (putR rkv d vto) (putR lr d to)) := Lib.hid ((HER.out.mono (fun e he => by simp [he])).put d to vto ⟨base7, by simp⟩)
    obtain ⟨L2, hL2⟩ : ∃ L2, L2 = rowsE base7 29 vto to :: rowsE w0.heap.size 30 v6 to :: rowE Db 30 (c8 d) :: rowE Ob 51 (opC 0 od OB oto.length oc on) :: L := ⟨_, rfl⟩
    have hS12 : Own w0 w9 (rowsE w0.heap.size 30 (.slice At to.length ct) to :: plL w0 G M K B Rr v v9 gv bv blk kv' (putR rkv d vto) gray L2) := by rw [hL2]; exact hS11
    rw [← hL2] at HE11 HER11
    clear hL2 hS10 hS11
    obtain ⟨n, hn⟩ : ∃ n, n = to.length := ⟨_, rfl⟩
    rw [← hn] at hS12
    rw [← hn]
    have hn12 : (n : Int) ≤ 12 := by have := HTL.out; omega
    have hst : 0 < n → ∃ g cs, At = some ⟨g, 0, none⟩ ∧ n * 32 ≤ cs.length ∧ Own w0 w9 (rowE g 30 cs :: plL w0 G M K B Rr v v9 gv bv blk kv' (putR rkv d vto) gray L2) := by
      intro h0
      obtain ⟨g, cs, hA, hrow, hlen⟩ := ownsR_block (hS12.rows 0 rfl) h0
      subst hA
      exact ⟨g, cs, rfl, hlen, hS12.block hrow⟩
    have hS13 := hS12.tail
    clear hS12 hn
    go_wp2
    go_loopw [42] (fun i wr => ∃ j : Nat, i = .int .i64 j ∧ j ≤ n ∧ Own w0 wr (plL w0 G M K B Rr v v9 gv bv blk kv' (putR rkv d vto) gray L2) ∧ (0 < n → ∃ g cs, At = some ⟨g, 0, none⟩ ∧ n * 32 ≤ cs.length ∧ Own w0 wr (rowE g 30 cs :: plL w0 G M K B Rr v v9 gv bv blk kv' (putR rkv d vto) gray L2))) (fun i _ => n - (intOf i).toNat)
    case atStart => exact ⟨0, rfl, by omega, hS13, hst⟩
    case round =>
      clear hS13 hst
      obtain ⟨j, rfl, hj, hS, hst⟩ := hrel
      by_cases hlt : j < n
      · have q1 : (j : Int) < (n : Int) := by omega
        obtain ⟨g, cs, rfl, hcs, hSg⟩ := hst (by omega)
        have HCS := Lib.hid hcs
        have HJ := Lib.hid hlt
        clear hst hS hcs hlt
        go_wp2_with (first | (refine wp_built rfl 30 _ rfl [(0, .int .u8 99)] rfl _ built99 ?_) | (refine wp_storeAgg rfl 30 (.tmp 48) (.tmp 47) rfl g (j * 32) 30 cs (c8 d99) rfl rfl (hSg.row 0 rfl) (info_dg d99 d99_len) (by rw [c8_length, d99_len]; have := HCS.out; have := HJ.out; omega) (one8 _) ?_))
        intro w14 hr hg hz
        clear hz
        have hS14 := hSg.setRow 0 rfl hr hg
        simp only [List.set_cons_zero] at hS14
        have HLN := Lib.hid (show n * 32 ≤ (splice cs (j * 32) (c8 d99)).length by rw [splice_len (by rw [c8_length, d99_len]; have := HCS.out; have := HJ.out; omega)]; exact HCS.out)
        clear hr hg hSg
        go_wp2
        go_roundw
        case rel => exact ⟨j + 1, by go_num, by have := HJ.out; omega, hS14.tail, fun _ => ⟨g, _, rfl, HLN.out, hS14⟩⟩
        case measure => have := HJ.out; simp [intOf]; omega
      · obtain rfl : j = n := by omega
        have q1 : ¬ ((j : Int) < (j : Int)) := by omega
        clear hst
        go_wp2
        refine bodyPost_ret (results_tmp3 rfl _ _ _) rfl ?_
        exact ⟨K, v9, rfl, B, v, gv, bv, blk, kv', _, gray, _, _, L2, HU.out, HAG.out.put d to HD.out, putN_low HLOW.out d to HTL.out, putR_low HRLOW.out d to HTL.out, by have := putN_len ns d to; have := HLEN.out; omega, by have := putR_len lr d to; have := HRLEN.out; omega, by have := HGL.out; omega, by have := HBL.out; omega, HE11.out, HER11.out, hS⟩
  · have k0a : (ok == 0) = false := by simpa using k0
    have k0b : decide (ok = 0) = false := decide_eq_false k0
    by_cases k1 : ok = 1
    · subst k1
      clear k0 k0a k0b HC3
      go_wp2_with (refine wp_load rfl 30 (.tmp 13) rfl Try.underlying30 rfl ⟨Db, 0, none⟩ rfl (c8 d) (info_dg d HD.out) (row_all (hS5.row 1 rfl)) ?_)
      have hS6 := (hS5.pickT (P := [_, _, _, _, _, _, _, _, _, _, _, _]) (L' := [_, _, _, _, _, _, _, _, _, _, _]) [6, 7, 1, 2, 3, 4, 5, 8, 9, 10, 11] (by decide) rfl)
      clear hS5 c0
      obtain ⟨tk, htk⟩ : ∃ tk, hasKV kv d = tk := ⟨_, rfl⟩
      have HTK := Lib.hid (show hasR rkv d nd0 = tk by rw [has_eq HAG.out HER.out HD.out, ← htk, HED.out.has d])
      have kd := drop_any w0 _ G M kv _ d HD.out hS6
      rw [htk] at kd
      obtain ⟨er, herq⟩ : ∃ er : Int, er = (if tk = true then 0 else 6) := ⟨_, rfl⟩
      rw [← herq] at kd
      have HERQ := Lib.hid herq
      clear htk hS6 herq
      refine kd.mono ?_
      rintro e w6 ⟨rfl, hS7⟩
      have hnd7 : ∀ W, Own w0 W (gE G M :: mapE M (delKV kv d) :: rowE Db 30 (c8 d) :: rowE Ob 51 (opC 1 od OB oto.length oc on) :: kE K G v B :: mapE B blk :: qE w0.heap.size v gray :: rE Rr gv bv :: qR w0.heap.size gv gray :: bR w0.heap.size bv (keysOf blk) :: nodesE w0.heap.size (.slice An rkv.length cn) rkv :: L) → NdIn W An cn rkv := fun W hW => by
        obtain ⟨A', c', hv, h2, -⟩ := ownsN_open (hW.nodes 10 rfl)
        injection hv with e1 e2 e3
        subst e1; subst e3
        exact h2
      have HND := Lib.hid hnd7
      clear hnd7 kd
      go_wp2_with (refine wp_load rfl 30 (.tmp 13) rfl Try.underlying30 rfl ⟨Db, 0, none⟩ rfl (c8 d) (info_dg d HD.out) (row_all (hS7.row 2 rfl)) ?_)
      have HRL := Lib.hid (show rkv.length ≤ 4096 by have := HRLEN.out; have := All2.len HER.out; have := HK.out; omega)
      have kh := has_any An cn rkv.length rkv d w6 rfl (HND.out _ hS7) HD.out HRL.out
      rw [HTK.out] at kh
      refine kh.mono ?_
      rintro e w7 ⟨rfl, hg⟩
      have hS8 := hS7.call hg
      clear hg hS7 kh
      go_wp2_with (refine wp_load rfl 30 (.tmp 13) rfl Try.underlying30 rfl ⟨Db, 0, none⟩ rfl (c8 d) (info_dg d HD.out) (row_all (hS8.row 2 rfl)) ?_)
      refine (refDrop_any An cn rkv.length rkv d _ rfl (HND.out _ hS8) HD.out HRL.out).mono ?_
      rintro e w8 ⟨v8, rfl, hT⟩
      have hS9 := (hS8.join hT).lowerN 0 rfl
      simp only [List.cons_append, List.nil_append, List.set_cons_zero, List.set_cons_succ] at hS9
      clear hS8 hT HND
      have hS10 := (hS9.pickT (P := [_, _, _, _, _, _, _, _, _, _, _, _]) (L' := [_, _, _, _, _, _, _, _, _, _, _]) [5, 6, 7, 1, 2, 8, 9, 10, 0, 3, 4] (by decide) rfl)
      clear hS9
      have HPST : Hid (Pst w0 w8 G M K Rr v8 (k + 1)) := Lib.hid ⟨B, v, gv, bv, blk, delKV kv d, delR rkv d, gray, delN ns d, delR lr d, _, HU.out, HAG.out.del d, HLOW.out.filt _, HRLOW.out.filt _, by have := delN_len ns d; have := HLEN.out; omega, by have := delR_len lr d; have := HRLEN.out; omega, by have := HGL.out; omega, by have := HBL.out; omega, (HED.out.del d).mono (fun e he => by simp [he]), (HER.out.del d).mono (fun e he => by simp [he]), hS10⟩
      clear hS10
      cases tk with
      | true =>
        obtain rfl : er = 0 := by simpa using HERQ.out
        go_wp2_with fail
        refine bodyPost_ret (results_tmp3 rfl _ _ _) rfl ?_
        exact ⟨K, v8, rfl, HPST.out⟩
      | false =>
        obtain rfl : er = 6 := by simpa using HERQ.out
        go_wp2_with fail
        refine bodyPost_ret (results_tmp3 rfl _ _ _) rfl ?_
        exact ⟨K, v8, rfl, HPST.out⟩
    · have k1a : (ok == 1) = false := by simpa using k1
      have k1b : decide (ok = 1) = false := decide_eq_false k1
      by_cases k2 : ok = 2
      · subst k2
        clear k0 k0a k0b k1 k1a k1b
        have c3 := HC3.out _ hS5
        have hpl := pot_le HLOW.out gray (keysOf blk)
        have HPOT := Lib.hid (show pot ns (gray, keysOf blk) ≤ 60000 by have := HGL.out; have := HLEN.out; have := HK.out; omega)
        have hgl1 := step_gray_le ns on.toNat (gray, keysOf blk)
        have hbl1 := step_unc ns on.toNat (gray, keysOf blk)
        have hbl2 := unc_le ns (keysOf blk)
        have hS6 := (hS5.pickT (P := [_, _, _, _, _, _, _, _, _, _, _, _]) (L' := [_, _, _, _, _, _, _, _, _, _, _, _]) [3, 4, 5, 6, 7, 8, 9, 10, 11, 0, 1, 2] (by decide) rfl)
        have k6 := step_any w0 _ K G M B w0.heap.size v blk gray kv ns _ on (Nat.le_refl _) HN1.out HU.out (HED.out.mono (fun e he => by simp [he])) HLOW.out.wide (by have := HPOT.out; omega) hS6
        obtain ⟨res, hres⟩ : ∃ res, res = stepM ns on.toNat (gray, keysOf blk) := ⟨_, rfl⟩
        rw [← hres] at k6 hgl1 hbl1
        have HRES := Lib.hid hres
        have HG2 := Lib.hid (show res.1.length ≤ 800 * (k + 1) by have := HGL.out; have := HLEN.out; have := HK.out; omega)
        have HB2 := Lib.hid (show res.2.length ≤ 100 * (k + 1) by have := HBL.out; have := HLEN.out; have := HK.out; simp only at hbl1; omega)
        obtain ⟨tb, htb⟩ : ∃ tb, decide (res.1 = []) = tb := ⟨_, rfl⟩
        rw [htb] at k6
        have HTB := Lib.hid htb
        clear hS5 hpl hgl1 hbl1 hbl2 hres htb HC3
        go_wp2_with fail
        refine k6.mono ?_
        rintro e w7 ⟨v7, blk7, rfl, hU7, hk7, hS7⟩
        have HU7 := Lib.hid hU7
        have HK7 := Lib.hid hk7
        clear k6 hU7 hk7 hS6 c3 c0
        have c3 := (hS7.row 11 rfl).cell 3
        simp [opC] at c3
        obtain ⟨LX, hLX⟩ : ∃ LX, LX = rowsE w0.heap.size 30 (.slice At to.length ct) to :: rowE Db 30 (c8 d) :: rowE Ob 51 (opC 2 od OB oto.length oc on) :: L := ⟨_, rfl⟩
        have HEDX := Lib.hid (show EdgesIn LX kv ns by rw [hLX]; exact HED.out.mono (fun e he => by simp [he]))
        have HERX := Lib.hid (show EdgesR LX rkv lr by rw [hLX]; exact HER.out.mono (fun e he => by simp [he]))
        have hS8 : Own w0 w7 (rE Rr gv bv :: qR w0.heap.size gv gray :: bR w0.heap.size bv (keysOf blk) :: nodesE w0.heap.size (.slice An rkv.length cn) rkv :: kE K G v7 B :: mapE B blk7 :: qE w0.heap.size v7 res.1 :: gE G M :: mapE M kv :: LX) := by
          rw [hLX]
          have h := (hS7.pickT (P := [_, _, _, _, _, _, _, _, _, _, _, _]) (L' := [_, _, _, _, _, _, _, _, _, _, _, _]) [5, 6, 7, 8, 0, 1, 2, 3, 4, 9, 10, 11] (by decide) rfl)
          exact h
        obtain ⟨black, hbk⟩ : ∃ black, black = keysOf blk := ⟨_, rfl⟩
        rw [← hbk] at hS8
        have HRES2 := Lib.hid (show res = stepM ns on.toNat (gray, black) by rw [hbk]; exact HRES.out)
        have HPB := Lib.hid (show black.length + pot ns (gray, black) ≤ 90000 by rw [hbk]; have := HPOT.out; have := HBL.out; have := HK.out; omega)
        clear hS7 hLX hbk HRES HPOT
        go_wp2
        go_loopw [20] (fun i wr => ∃ (m : Int) (gv bv : Value) (gray black : List Dg), i = .int .i64 m ∧ m ≤ 9223372036854775807 ∧ -9223372036854775808 ≤ m ∧ res = stepM ns m.toNat (gray, black) ∧ black.length + pot ns (gray, black) ≤ 90000 ∧
          Own w0 wr (rE Rr gv bv :: qR w0.heap.size gv gray :: bR w0.heap.size bv black :: nodesE w0.heap.size (.slice An rkv.length cn) rkv :: kE K G v7 B :: mapE B blk7 :: qE w0.heap.size v7 res.1 :: gE G M :: mapE M kv :: LX)) (fun i _ => (intOf i).toNat)
        case atStart => exact ⟨on, gv, bv, gray, black, rfl, HN1.out, HN2.out, HRES2.out, HPB.out, hS8⟩
        case round =>
          clear hS8 c3 HRES2 HPB HGL HBL HN1 HN2
          clear gv bv gray black
          obtain ⟨m, gv, bv, gray, black, rfl, hm1, hm2, hres, hpb, hS⟩ := hrel
          have HPB := Lib.hid hpb
          obtain ⟨Ag, cg, rfl, -, -⟩ := (hS.quR 1 rfl).open_
          have c0 := (hS.rmk 0 rfl).cell 0
          simp at c0
          by_cases hm : 0 < m
          · have t0 : decide (0 < m) = true := by simpa using hm
            cases gray with
            | nil =>
              have hres2 : res = ([], black) := by rw [hres, stepM_nil]
              obtain rfl : tb = true := by rw [← HTB.out, hres2]; rfl
              have HQ2 := Lib.hid hres2
              subst hres2
              clear hres hpb
              go_wp2_with fail
              have hS1 := hS.drew
              clear hS
              refine wp_region_mixC (fun W => Own w0 W _) (fun _ => true) [(0, true), (1, true), (2, true), (3, true), (4, true), (5, true), (6, true), (7, true), (8, true), (9, true), (10, false), (11, false), (12, false)] (by kernel_rfl) (by kernel_rfl) hS1 ?_
              iterate 6 (refine wpMix_step rfl (fun K hK => ?_); go_simp; (try go_bits); with_reducible refine hK _ ?_; clear hK K)
              refine wpMix_pureW _ rfl rfl (fun W hW => run_load_cell 35 (.tmp 107) rfl Try.underlying35 rfl ⟨Rr, 0, none⟩ rfl _ (((hW.row 0 rfl).cell 0).trans rfl)) ?_
              iterate 3 (refine wpMix_step rfl (fun K hK => ?_); go_simp; (try go_bits); with_reducible refine hK _ ?_; clear hK K)
              refine wpMix_loudW _ rfl rfl ?_
              go_wp2_with fail
              refine wpMix_next' (fun _ => hS1) ?_
              refine wpMix_loudW _ rfl rfl ?_
              go_wp2_with fail
              refine wpMix_next' (fun _ => hS1) ?_
              refine wpMix_loudW _ rfl rfl ?_
              go_wp2_with fail
              refine wpMix_next' (fun _ => hS1) ?_
              unfold wpMix
              have hS2 := (hS1.pickT (P := [_, _, _, _, _, _, _, _, _]) (L' := [_, _, _, _, _, _, _, _, _]) [4, 5, 6, 7, 8, 0, 1, 2, 3] (by decide) rfl)
              rw [show black = keysOf blk7 from HK7.out.symm] at hS2
              have HPST : Hid (Pst w0 wr.drew G M K Rr (.slice An rkv.length cn) (k + 1)) := Lib.hid ⟨B, v7, _, _, blk7, kv, rkv, _, ns, lr, LX, HU7.out, HAG.out, HLOW.out, HRLOW.out, by have := HLEN.out; omega, by have := HRLEN.out; omega, HG2.out, by rw [HK7.out]; exact HB2.out, HEDX.out, HERX.out, hS2⟩
              clear hS1 hS2
              go_wp2
              refine bodyPost_ret (results_tmp3 rfl _ _ _) rfl ?_
              exact ⟨K, _, rfl, HPST.out⟩
            | cons dd g =>
              have hst := step_go ns (m - 1).toNat (dd :: g, black)
              have hres2 : res = stepM ns (m - 1).toNat (lookM ns (dd :: g, black)) := by rw [hres, show m.toNat = (m - 1).toNat + 1 by omega, hst]
              have hpl := pot_len ns (dd :: g) black
              have hlb := look_black_len ns (dd :: g, black)
              have HR2 := Lib.hid hres2
              have HLB := Lib.hid (show (lookM ns (dd :: g, black)).2.length + pot ns (lookM ns (dd :: g, black)) ≤ 90000 by have := HPB.out; exact Nat.le_trans hlb this)
              have kl := rlook_any w0 _ Rr rkv.length _ bv An cn rkv ns lr _ dd g black HAG.out (HERX.out.mono (fun e he => by simp [he])) rfl (by have := HRLEN.out; have := All2.len HER.out; have := HK.out; omega) HRLOW.out.wide (by simp only [List.length_cons] at hpl; omega) (by omega) hS
              clear hst hres2 hres hpl hlb hpb
              go_wp2_with fail
              refine kl.mono ?_
              rintro e w9 ⟨gv9, bv9, rfl, hS9⟩
              clear kl hS c0
              go_wp2
              go_roundw
              case rel => exact ⟨m - 1, gv9, bv9, _, _, by go_num, by omega, by omega, HR2.out, HLB.out, hS9⟩
              case measure => simp [intOf]; omega
          · have t0 : decide (0 < m) = false := by simpa using hm
            have hres2 : res = (gray, black) := by rw [hres, show m.toNat = 0 by omega]; rfl
            have t1 : ((gray.length : Int) == 0) = tb := by rw [← HTB.out, hres2, Bool.eq_iff_iff]; simp
            have t2 : decide ((gray.length : Int) = 0) = tb := by rw [← HTB.out, hres2, Bool.eq_iff_iff]; simp
            have t3 : decide (gray = []) = tb := by rw [← HTB.out, hres2]
            subst hres2
            clear hres hpb
            go_wp2_with fail
            have hS1 := hS.drew
            clear hS
            refine wp_region_mixC (fun W => Own w0 W _) (fun _ => true) [(0, true), (1, true), (2, true), (3, true), (4, true), (5, true), (6, true), (7, true), (8, true), (9, true), (10, false), (11, false), (12, false)] (by kernel_rfl) (by kernel_rfl) hS1 ?_
            iterate 6 (refine wpMix_step rfl (fun K hK => ?_); go_simp; (try go_bits); with_reducible refine hK _ ?_; clear hK K)
            refine wpMix_pureW _ rfl rfl (fun W hW => run_load_cell 35 (.tmp 107) rfl Try.underlying35 rfl ⟨Rr, 0, none⟩ rfl _ (((hW.row 0 rfl).cell 0).trans rfl)) ?_
            iterate 3 (refine wpMix_step rfl (fun K hK => ?_); go_simp; (try go_bits); with_reducible refine hK _ ?_; clear hK K)
            refine wpMix_loudW _ rfl rfl ?_
            go_wp2_with fail
            refine wpMix_next' (fun _ => hS1) ?_
            refine wpMix_loudW _ rfl rfl ?_
            go_wp2_with fail
            refine wpMix_next' (fun _ => hS1) ?_
            refine wpMix_loudW _ rfl rfl ?_
            go_wp2_with fail
            refine wpMix_next' (fun _ => hS1) ?_
            unfold wpMix
            have hS2 := (hS1.pickT (P := [_, _, _, _, _, _, _, _, _]) (L' := [_, _, _, _, _, _, _, _, _]) [4, 5, 6, 7, 8, 0, 1, 2, 3] (by decide) rfl)
            rw [show black = keysOf blk7 from HK7.out.symm] at hS2
            have HPST : Hid (Pst w0 wr.drew G M K Rr (.slice An rkv.length cn) (k + 1)) := Lib.hid ⟨B, v7, _, _, blk7, kv, rkv, _, ns, lr, LX, HU7.out, HAG.out, HLOW.out, HRLOW.out, by have := HLEN.out; omega, by have := HRLEN.out; omega, HG2.out, by rw [HK7.out]; exact HB2.out, HEDX.out, HERX.out, hS2⟩
            clear hS1 hS2
            go_wp2
            refine bodyPost_ret (results_tmp3 rfl _ _ _) rfl ?_
            exact ⟨K, _, rfl, HPST.out⟩
      · have k2a : (ok == 2) = false := by simpa using k2
        have k2b : decide (ok = 2) = false := decide_eq_false k2
        by_cases k3 : ok = 3
        · subst k3
          clear k0 k0a k0b k1 k1a k1b k2 k2a k2b HC3
          go_wp2_with (refine wp_load rfl 30 (.tmp 13) rfl Try.underlying30 rfl ⟨Db, 0, none⟩ rfl (c8 d) (info_dg d HD.out) (row_all (hS5.row 1 rfl)) ?_)
          have hS6 := (hS5.pickT (P := [_, _, _, _, _, _, _, _, _, _, _, _]) (L' := [_, _, _, _, _, _, _, _, _, _, _]) [8, 9, 10, 1, 2, 3, 4, 5, 6, 7, 11] (by decide) rfl)
          clear hS5 c0
          refine (turn_any w0 _ Rr w0.heap.size gv bv gray (keysOf blk) _ d HD.out (by have := HGL.out; have := HK.out; omega) (by have := HBL.out; have := HK.out; omega) hS6).mono ?_
          rintro e w6 ⟨gv6, bv6, rfl, hS7⟩
          clear hS6
          go_wp2_with (refine wp_load rfl 30 (.tmp 13) rfl Try.underlying30 rfl ⟨Db, 0, none⟩ rfl (c8 d) (info_dg d HD.out) (row_all (hS7.row 3 rfl)) ?_)
          have hS8 := (hS7.pickT (P := [_, _, _, _, _, _, _, _, _, _, _]) (L' := [_, _, _, _, _, _, _, _, _, _, _]) [5, 6, 7, 3, 4, 8, 9, 0, 1, 2, 10] (by decide) rfl)
          clear hS7
          refine (gray_any w0 _ K G B w0.heap.size v blk gray _ d HD.out hS8.size (by have := HGL.out; have := HK.out; omega) hS8).mono ?_
          rintro e w7 ⟨v7, rfl, hS9⟩
          have hS10 := (hS9.pickT (P := [_, _, _, _, _, _, _, _, _, _, _]) (L' := [_, _, _, _, _, _, _, _, _, _, _]) [0, 1, 2, 5, 6, 7, 8, 9, 10, 3, 4] (by decide) rfl)
          clear hS8 hS9
          have hfd : filD (keysOf blk) d = keysOf (delKV blk d) := by rw [keysOf_del]; rfl
          rw [hfd] at hS10
          have HPST : Hid (Pst w0 w7 G M K Rr (.slice An rkv.length cn) (k + 1)) := Lib.hid ⟨B, v7, gv6, bv6, delKV blk d, kv, rkv, gray ++ [d], ns, lr, _, HU.out.del d, HAG.out, HLOW.out, HRLOW.out, by have := HLEN.out; omega, by have := HRLEN.out; omega, by have := HGL.out; simp; omega, by
            have h1 : (filD (keysOf blk) d).length ≤ (keysOf blk).length := List.length_filter_le _ _
            have := HBL.out
            rw [hfd] at h1
            omega, HED.out.mono (fun e he => by simp [he]), HER.out.mono (fun e he => by simp [he]), hS10⟩
          clear hS10 hfd
          go_wp2_with fail
          refine bodyPost_ret (results_tmp3 rfl _ _ _) rfl ?_
          exact ⟨K, _, rfl, HPST.out⟩
        · have k3a : (ok == 3) = false := by simpa using k3
          have k3b : decide (ok = 3) = false := decide_eq_false k3
          by_cases k4 : ok = 4
          · subst k4
            clear k0 k0a k0b k1 k1a k1b k2 k2a k2b k3 k3a k3b HC3
            go_wp2_with fail
            refine (from_any At ct to _ (own_slice (hS5.rows 0 rfl)).2.1 (by have := HTL.out; omega)).mono ?_
            rintro e w6 ⟨v6, rfl, ho, hg⟩
            have hS6 := hS5.madeR ho hg
            have hS6 := hS6.lower 0 rfl
            simp only [List.set_cons_zero] at hS6
            obtain ⟨A6, c6, rfl, -, -⟩ := ownsR_open ho
            clear ho hg hS5 c0
            go_wp2_with (first | (refine wp_built rfl 56 _ rfl [(0, .slice A6 to.length c6)] rfl _ (built_mk A6 to.length c6) ?_) | (refine wp_storeAgg rfl 56 (.tmp 129) (.tmp 128) rfl Rr 0 56 [gv, bv] [.slice A6 to.length c6, .slice none 0 0] rfl rfl (hS6.rmk 9 rfl) info_mk (by simp) (by intro v hv; simp at hv; rcases hv with rfl | rfl <;> rfl) ?_))
            intro w7 hr hg hz
            clear hz
            rw [splice_all (by simp)] at hr
            have hS7 := hS6.setRow 9 rfl hr hg
            simp only [List.set_cons_zero, List.set_cons_succ] at hS7
            clear hr hg hS6
            go_wp2_with fail
            refine (mark_any w7 G At ct to (own_slice (hS7.rows 1 rfl)).2.1 (by have := HTL.out; omega)).mono ?_
            rintro e w8 ⟨K8, B8, v8, rfl, hT⟩
            have hS8 := (hS7.join hT).lowerQ 2 rfl
            simp only [List.cons_append, List.nil_append, List.set_cons_zero, List.set_cons_succ] at hS8
            have hS9 := hS8.turn (e' := qR w0.heap.size (.slice A6 to.length c6) to) (i := 3) rfl (queueE_good _ _ _ _) (OwnsR.queue (hS8.rows 3 rfl)) rfl
            simp only [List.set_cons_zero, List.set_cons_succ] at hS9
            have hS10 := hS9.nilR w0.heap.size 29
            have hS11 := (hS10.pickT (P := [_, _, _, _, _, _, _, _, _, _, _, _, _, _, _, _, _]) (L' := [_, _, _, _, _, _, _, _, _, _, _]) [1, 2, 3, 11, 12, 13, 4, 0, 16, 6, 7] (by decide) rfl)
            clear hS7 hT hS8 hS9 hS10
            have HPST : Hid (Pst w0 w8 G M K8 Rr (.slice An rkv.length cn) (k + 1)) := Lib.hid ⟨B8, v8, .slice A6 to.length c6, .slice none 0 0, [], kv, rkv, to, ns, lr, _, (by intro p hp; cases hp), HAG.out, HLOW.out, HRLOW.out, by have := HLEN.out; omega, by have := HRLEN.out; omega, by have := HTL.out; omega, by simp [keysOf], HED.out.mono (fun e he => by simp [he]), HER.out.mono (fun e he => by simp [he]), hS11⟩
            clear hS11
            go_wp2_with fail
            refine bodyPost_ret (results_tmp3 rfl _ _ _) rfl ?_
            exact ⟨K8, _, rfl, HPST.out⟩
          · have k4a : (ok == 4) = false := by simpa using k4
            have k4b : decide (ok = 4) = false := decide_eq_false k4
            go_wp2_with fail
            refine bodyPost_ret (results_tmp3 rfl _ _ _) rfl ?_
            have hS6 := (hS5.pickT (P := [_, _, _, _, _, _, _, _, _, _, _, _]) (L' := [_, _, _, _, _, _, _, _, _, _, _, _]) [3, 4, 5, 6, 7, 8, 9, 10, 11, 0, 1, 2] (by decide) rfl)
            exact ⟨K, _, rfl, B, v, gv, bv, blk, kv, rkv, gray, ns, lr, _, HU.out, HAG.out, HLOW.out, HRLOW.out, by have := HLEN.out; omega, by have := HRLEN.out; omega, by have := HGL.out; omega, by have := HBL.out; omega, HED.out.mono (fun e he => by simp [he]), HER.out.mono (fun e he => by simp [he]), hS6⟩
end Go.Proofs.Ytnlnkojcbjaeeaa
