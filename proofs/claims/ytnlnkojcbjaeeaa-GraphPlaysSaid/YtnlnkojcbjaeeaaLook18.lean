/- The document's marker: Look. -/
import Derived.Test.YtnlnkojcbjaeeaaMk18
import Derived.Test.YtnlnkojcbjaeeaaStepW18
namespace Go.Proofs.Ytnlnkojcbjaeeaa
set_option linter.unusedVariables false
set_option linter.unusedSimpArgs false
set_option linter.unusedSectionVars false
open Go.RowKit
set_option linter.unusedVariables false
theorem Own.ent {w0 w : World} {L : List Ent} {base : Nat} {t : TypeId} {v : Value} {l : List Dg} (h : Own w0 w L) (hm : rowsE base t v l ∈ L) : OwnsR w base t v l := (h.good _ hm).2.1
theorem mem4 {L : List Ent} {x a b c d : Ent} (h : x ∈ L) : x ∈ a :: b :: c :: d :: L := by simp [h]
theorem mem5 {L : List Ent} {x a b c d e : Ent} (h : x ∈ L) : x ∈ a :: b :: c :: d :: e :: L := by simp [h]
theorem Own.q1 {w0 w : World} {L : List Ent} {d r q : Ent} (h : Own w0 w (d :: r :: q :: L)) : Own w0 w (q :: d :: r :: L) := h.perm ((List.Perm.cons _ (List.Perm.swap _ _ _)).trans (List.Perm.swap _ _ _))
theorem Own.q2 {w0 w : World} {L : List Ent} {d r q : Ent} (h : Own w0 w (q :: d :: r :: L)) : Own w0 w (d :: r :: q :: L) := h.perm ((List.Perm.swap _ _ _).trans (List.Perm.cons _ (List.Perm.swap _ _ _)))
set_option maxRecDepth 100000 in
set_option maxHeartbeats 8000000 in
theorem rlook_any (w0 w : World) (Rr n : Nat) (gv bv : Value) (Av : Option Addr) (cv : Nat) (rkv : KV) (ns lr : Nodes) (L : List Ent) (d : Dg) (g black : List Dg) (hag : Agree ns lr) (her : EdgesR L rkv lr) (hn : rkv.length = n) (hl : rkv.length ≤ 4096) (hlow : ∀ p ∈ lr, p.2.length ≤ 4096)
    (hgl : g.length ≤ 1000000) (hbl : black.length ≤ 90000) (hS : Own w0 w (rE Rr gv bv :: qR w0.heap.size gv (d :: g) :: bR w0.heap.size bv black :: nodesE w0.heap.size (.slice Av n cv) rkv :: L)) :
    Calls Try.prog 36 #[.pointer (some ⟨Rr, 0, none⟩), .slice Av n cv] w fun e w' => ∃ gv' bv', e = .returned (.tuple #[]) ∧
      Own w0 w' (rE Rr gv' bv' :: qR w0.heap.size gv' (lookM ns (d :: g, black)).1 :: bR w0.heap.size bv' (lookM ns (d :: g, black)).2 :: nodesE w0.heap.size (.slice Av n cv) rkv :: L) := by
  subst hn
  have HAG := Lib.hid hag
  have HER := Lib.hid her
  have HL := Lib.hid hl
  have HLOW := Lib.hid hlow
  have HGL := Lib.hid hgl
  have HBL := Lib.hid hbl
  clear hag her hl hlow hgl hbl
  obtain ⟨res, hres⟩ : ∃ res, res = lookM ns (d :: g, black) := ⟨_, rfl⟩
  rw [← hres]
  have HRES := Lib.hid hres
  clear hres
  have hq := hS.quR 1 rfl
  obtain ⟨A, c, rfl, hrows, hc⟩ := hq.open_
  have hd := hrows.all d (by simp)
  have HD := Lib.hid hd
  obtain ⟨b, off, rfl, hcell⟩ := hrows.at_ 0 (by simp)
  have HC := Lib.hid hcell
  have hle := hrows.le
  obtain ⟨nb, hnb⟩ : ∃ m, m = black.length := ⟨_, rfl⟩
  obtain ⟨Ab, cb, rfl, -, -⟩ := ownsR_at (hS.blR 2 rfl) hnb.symm
  have HNB := Lib.hid hnb
  have c0 := (hS.rmk 0 rfl).cell 0
  have f0 := (hS.rmk 0 rfl).frozen 0
  simp at c0
  have htl := hq.tail
  have hsl := fun W => run_from32 (P := Try.prog) Try.underlying35 size_a (some ⟨b, off, none⟩) (d :: g).length c 1 (by simp) hle W
  clear hd hcell hrows hq hnb
  go_enter Try.func36, Try.ntmps36
  go_wp2_with (first | (refine wp_load rfl 29 (.tmp 11) rfl Try.underlying29 rfl ⟨b, off, none⟩ rfl (c8 d) (info_a32 d HD.out) (by simpa using HC.out) ?_) | (refine wp_alloc (o := ⟨some 4, _, _, _, _, _⟩) rfl 29 rfl _ alloc_d32 ?_))
  intro w1 hr hg hz
  clear hz
  have hS1 := hS.new hr hg
  clear hr hg hS c0 f0
  go_wp2_with (refine wp_storeAgg rfl 29 (.tmp 4) (.tmp 12) rfl w.heap.size 0 29 zd (c8 d) rfl rfl (hS1.row 0 rfl) (info_a32 d HD.out) (by rw [c8_length, HD.out]; decide) (one8 _) ?_)
  intro w2 hr hg hz
  clear hz
  rw [splice_all (by rw [c8_length, HD.out]; decide)] at hr
  have hS2 := hS1.setRow 0 rfl hr hg
  simp only [List.set_cons_zero] at hS2
  clear hr hg hS1
  have ht2 := ((hS2.quR 2 rfl).tail).1
  have hbk := htl.2
  obtain ⟨A1, c1', hv1, -, -⟩ := ht2.open_
  have hS3 := hS2.turn (e' := qR w0.heap.size (.slice A1 g.length c1') g) (i := 2) rfl (queueE_good _ _ _ _) (by rw [← hv1]; exact ht2) (by rw [← hv1]; exact hbk)
  simp only [List.set_cons_zero, List.set_cons_succ] at hS3
  have hsl2 : ∀ W : World, (Instr.slice 35 (.slice (some ⟨b, off, none⟩) (d :: g).length c) (some (.int .i64 1)) none none).run Try.prog W = .ok (.slice A1 g.length c1') W := fun W => by rw [← hv1]; exact hsl W
  have hsl3 : ∀ W : World, (Instr.slice 35 (.slice (some ⟨b, off, none⟩) (g.length + 1) c) (some (.int .i64 1)) none none).run Try.prog W = .ok (.slice A1 g.length c1') W := hsl2
  clear hsl hsl2 htl hbk hv1 ht2 hS2 hle
  have c0 := (hS3.rmk 1 rfl).cell 0
  have f0 := (hS3.rmk 1 rfl).frozen 0
  simp at c0
  go_wp2
  have hS4 := hS3.set 1 rfl 0 (.slice A1 g.length c1')
  simp only [List.set_cons_zero, List.set_cons_succ] at hS4
  clear hS3 c0 f0 hsl3
  obtain ⟨tk, htk⟩ : ∃ tk, hasR rkv d nd0 = tk := ⟨_, rfl⟩
  have HTK := Lib.hid htk
  have HHAS := Lib.hid (fun (W : World) (h : NdIn W Av cv rkv) => has_any Av cv rkv.length rkv d W rfl h HD.out HL.out)
  rw [htk] at HHAS
  have HND := Lib.hid (fun (W : World) (hW : Own w0 W (rowE w.heap.size 29 (c8 d) :: rE Rr (.slice A1 g.length c1') (.slice Ab nb cb) :: qR w0.heap.size (.slice A1 g.length c1') g :: bR w0.heap.size (.slice Ab nb cb) black :: nodesE w0.heap.size (.slice Av rkv.length cv) rkv :: L)) => (show NdIn W Av cv rkv by
    obtain ⟨A', c', hv, h2, -⟩ := ownsN_open (hW.nodes 4 rfl)
    injection hv with e1 e2 e3
    subst e1; subst e3
    exact h2))
  clear htk
  cases tk with
  | false =>
    have HR2 := Lib.hid (show res = (g, black) by
      have h1 := has_eq HAG.out HER.out HD.out
      rw [HTK.out] at h1
      rw [HRES.out]
      exact lookM_none ns d g black (by simpa using h1.symm))
    have hS5 := hS4.drew
    clear hS4
    refine wp_region_mixC (fun W => Own w0 W _) (fun _ => true) [(0, true), (1, true), (2, false), (3, true), (4, true), (5, true), (6, true), (7, true), (8, true), (9, true), (10, true), (11, true)] (by kernel_rfl) (by kernel_rfl) hS5 ?_
    iterate 1 (refine wpMix_step rfl (fun K hK => ?_); go_simp; (try go_bits); with_reducible refine hK _ ?_; clear hK K)
    refine wpMix_pureW (.agg (c8 d).toArray) rfl rfl (fun W hW => run_load_op 29 (.tmp 4) rfl Try.underlying29 rfl ⟨w.heap.size, 0, none⟩ rfl _ (info_a32 d HD.out) (row_all (hW.row 0 rfl))) ?_
    refine wpMix_loudW _ rfl rfl ?_
    go_wp2_with fail
    refine (HHAS.out _ (HND.out _ hS5)).mono ?_
    rintro e w6 ⟨rfl, hg⟩
    have hS6 := hS5.call hg
    clear hg hS5
    go_wp2_with fail
    refine wpMix_next' (fun _ => hS6) ?_
    iterate 2 (refine wpMix_step rfl (fun K hK => ?_); go_simp; (try go_bits); with_reducible refine hK _ ?_; clear hK K)
    iterate 6 (refine wpMix_skipK rfl rfl (fun K hK => ?_); go_simp; with_reducible refine hK _ ?_; clear hK K)
    iterate 1 (refine wpMix_step rfl (fun K hK => ?_); go_simp; (try go_bits); with_reducible refine hK _ ?_; clear hK K)
    unfold wpMix
    go_wp2
    refine bodyPost_ret (results_none rfl _ _ _) rfl ?_
    exact ⟨_, _, rfl, by rw [HR2.out]; exact hS6.tail⟩
  | true =>
    have HIN := Lib.hid (fun (W : World) (h : Rows32 W Ab cb black) => in_any Ab cb nb black d W HNB.out.symm h HD.out (by have := HBL.out; omega))
    obtain ⟨tb, htb⟩ : ∃ tb, decide (d ∈ black) = tb := ⟨_, rfl⟩
    have HTB := Lib.hid htb
    rw [htb] at HIN
    clear htb
    have hS5 := hS4.drew
    clear hS4
    refine wp_region_mixC (fun W => Own w0 W _) (fun _ => true) [(0, true), (1, true), (2, false), (3, true), (4, true), (5, true), (6, true), (7, true), (8, true), (9, true), (10, false), (11, true)] (by kernel_rfl) (by kernel_rfl) hS5 ?_
    iterate 1 (refine wpMix_step rfl (fun K hK => ?_); go_simp; (try go_bits); with_reducible refine hK _ ?_; clear hK K)
    refine wpMix_pureW (.agg (c8 d).toArray) rfl rfl (fun W hW => run_load_op 29 (.tmp 4) rfl Try.underlying29 rfl ⟨w.heap.size, 0, none⟩ rfl _ (info_a32 d HD.out) (row_all (hW.row 0 rfl))) ?_
    refine wpMix_loudW _ rfl rfl ?_
    go_wp2_with fail
    refine (HHAS.out _ (HND.out _ hS5)).mono ?_
    rintro e w6 ⟨rfl, hg⟩
    have hS6 := hS5.call hg
    clear hg hS5
    go_wp2_with fail
    refine wpMix_next' (fun _ => hS6) ?_
    iterate 5 (refine wpMix_step rfl (fun K hK => ?_); go_simp; (try go_bits); with_reducible refine hK _ ?_; clear hK K)
    refine wpMix_pureW _ rfl rfl (fun W hW => run_load_cell 35 (.tmp 28) rfl Try.underlying35 rfl ⟨Rr, 1, none⟩ rfl _ (((hW.row 1 rfl).cell 1).trans rfl)) ?_
    refine wpMix_pureW (.agg (c8 d).toArray) rfl rfl (fun W hW => run_load_op 29 (.tmp 4) rfl Try.underlying29 rfl ⟨w.heap.size, 0, none⟩ rfl _ (info_a32 d HD.out) (row_all (hW.row 0 rfl))) ?_
    refine wpMix_loudW _ rfl rfl ?_
    go_wp2_with fail
    refine (HIN.out _ (own_slice (hS6.blR 3 rfl)).2.1).mono ?_
    rintro e w7 ⟨rfl, hg⟩
    have hS7 := hS6.call hg
    clear hg hS6
    go_wp2_with fail
    refine wpMix_next' (fun _ => hS7) ?_
    iterate 1 (refine wpMix_step rfl (fun K hK => ?_); go_simp; (try go_bits); with_reducible refine hK _ ?_; clear hK K)
    unfold wpMix
    cases tb with
    | true =>
      have HR2 := Lib.hid (show res = (g, black) by rw [HRES.out]; exact lookM_old ns d g black (of_decide_eq_true HTB.out))
      go_wp2
      refine bodyPost_ret (results_none rfl _ _ _) rfl ?_
      exact ⟨_, _, rfl, by rw [HR2.out]; exact hS7.tail⟩
    | false =>
      obtain ⟨l, hed⟩ : ∃ l, edgesOf ns d = some l := by have h1 := has_eq HAG.out HER.out HD.out; rw [HTK.out] at h1; exact Option.isSome_iff_exists.1 h1.symm
      obtain ⟨hk, hlk⟩ := find_eq HAG.out HER.out HD.out hed
      have HR2 := Lib.hid (show res = (g ++ grayEdges (black ++ [d]) l, black ++ [d]) by rw [HRES.out]; exact lookM_new ns d g black l hed (of_decide_eq_false HTB.out))
      have hfd := fun (W : World) (h : NdIn W Av cv rkv) => find_any Av cv rkv.length rkv d W rfl h HD.out HL.out
      obtain ⟨k, hke⟩ : ∃ k, k = findR rkv d := ⟨_, rfl⟩
      rw [← hke] at hk hlk hfd
      obtain ⟨-, base', hmem⟩ := All2.get HER.out nd0 n0 k hk
      have hmem' : rowsE base' 29 (rkv.getD k nd0).2 l ∈ L := by rw [← hlk]; exact hmem
      have hll : l.length ≤ 4096 := by
        have := All2.len HER.out
        rw [← hlk]
        exact HLOW.out _ (getD_mem (by omega) _)
      obtain ⟨Al, cl, hvl, -, -⟩ := ownsR_open (hS7.ent (mem5 hmem'))
      rw [hvl] at hmem'
      have HM := Lib.hid hmem'
      have HVL := Lib.hid hvl
      have HK := Lib.hid hk
      have HFD := Lib.hid hfd
      have HLL := Lib.hid hll
      clear hed hk hlk hfd hke hmem hmem' hll hvl
      go_wp2
      have hS8 := hS7.drew
      clear hS7
      refine wp_region_mixC (fun W => Own w0 W [rowE w.heap.size 29 (c8 d), rE Rr (.slice A1 g.length c1') (.slice Ab nb cb)]) (fun i => i != 10) [(0, true), (1, true), (2, true), (3, true), (4, true), (5, true), (6, false), (7, false), (8, false), (9, false), (10, false)] (by kernel_rfl) (by kernel_rfl) (hS8.sub (((List.nil_sublist _).cons_cons _).cons_cons _)) ?_
      iterate 4 (refine wpMix_step rfl (fun K hK => ?_); go_simp; (try go_bits); with_reducible refine hK _ ?_; clear hK K)
      refine wpMix_pureW _ rfl rfl (fun W hW => run_load_cell 35 (.tmp 36) rfl Try.underlying35 rfl ⟨Rr, 1, none⟩ rfl _ (((hW.row 1 rfl).cell 1).trans rfl)) ?_
      refine wpMix_pureW (.agg (c8 d).toArray) rfl rfl (fun W hW => run_load_op 29 (.tmp 4) rfl Try.underlying29 rfl ⟨w.heap.size, 0, none⟩ rfl _ (info_a32 d HD.out) (row_all (hW.row 0 rfl))) ?_
      refine wpMix_loudW _ rfl rfl ?_
      refine wp_built1 rfl 35 (.tmp 38) rfl 29 Try.underlying35 32 info_za (by omega) (by omega) (c8 d) (by rw [c8_length, HD.out]) rfl ?_
      intro w8 hr hg
      have hS9 := hS8.new hr hg
      clear hr hg hS8
      go_wp2_with fail
      refine wpMix_next' (fun _ => hS9.tail.sub (((List.nil_sublist _).cons_cons _).cons_cons _)) ?_
      refine wpMix_loudW _ rfl rfl ?_
      refine wp_appR rfl (.tmp 37) (.tmp 39) 35 rfl 29 Try.underlying35 info_ra black (black ++ [d]) rfl (hS9.blR 4 rfl) _ 1 1 [d] rfl (fun y hy => by rw [List.mem_singleton.1 hy]; exact HD.out) (by simpa using src_row (hS9.row 0 rfl)) rfl rfl (by have := HBL.out; simp only [List.length_cons, List.length_nil]; omega) hS9.size ?_
      intro v' w9 ho hg hv
      have hS10 := (hS9.appendR 4 rfl ho hg (by first | exact hv | simpa using hv)).tail
      simp only [List.set_cons_zero, List.set_cons_succ] at hS10
      obtain ⟨bk2, hbk2⟩ : ∃ bk2, bk2 = black ++ [d] := ⟨_, rfl⟩
      rw [← hbk2] at hS10 HR2 ho
      obtain ⟨n2, hn2⟩ : ∃ m, m = bk2.length := ⟨_, rfl⟩
      obtain ⟨A2, c2, rfl, -, -⟩ := ownsR_at ho hn2.symm
      have HN2 := Lib.hid hn2
      have HBL2 := Lib.hid (show bk2.length ≤ 100000 by have := HBL.out; rw [hbk2]; simp; omega)
      clear ho hg hv hS9 hbk2 hn2
      go_wp2_with fail
      refine wpMix_next' (fun _ => hS10.sub (((List.nil_sublist _).cons_cons _).cons_cons _)) ?_
      refine wpMix_loudW _ rfl rfl ?_
      go_wp2_with fail
      refine wpMix_next' (fun _ => hS10.sub (((List.nil_sublist _).cons_cons _).cons_cons _)) ?_
      refine wpMix_loudW _ rfl rfl ?_
      go_wp2_with fail
      refine wpMix_next' (fun _ => hS10.sub (((List.nil_sublist _).cons_cons _).cons_cons _)) ?_
      have cK := (hS10.rmk 1 rfl).cell 1
      have fK := (hS10.rmk 1 rfl).frozen 1
      simp at cK
      refine wpMix_loudW _ rfl rfl ?_
      go_wp2_with fail
      refine wpMix_next' (fun h => by cases h) ?_
      unfold wpMix
      have hS11 := hS10.set 1 rfl 1 (.slice A2 n2 c2)
      simp only [List.set_cons_zero, List.set_cons_succ] at hS11
      clear hS10 cK fK
      have hnd2 : ∀ (W : World), Own w0 W (rowE w.heap.size 29 (c8 d) :: rE Rr (.slice A1 g.length c1') (.slice A2 n2 c2) :: qR w0.heap.size (.slice A1 g.length c1') g :: bR w0.heap.size (.slice A2 n2 c2) bk2 :: nodesE w0.heap.size (.slice Av rkv.length cv) rkv :: L) → NdIn W Av cv rkv := fun W hW => by
        obtain ⟨A', c', hv, h2, -⟩ := ownsN_open (hW.nodes 4 rfl)
        injection hv with e1 e2 e3
        subst e1; subst e3
        exact h2
      go_wp2_with (refine wp_load rfl 29 (.tmp 4) rfl Try.underlying29 rfl ⟨w.heap.size, 0, none⟩ rfl (c8 d) (info_a32 d HD.out) (row_all (hS11.row 0 rfl)) ?_)
      refine (HFD.out _ (hnd2 _ hS11)).mono ?_
      rintro e w12 ⟨rfl, hg⟩
      have hS12 := hS11.call hg
      obtain ⟨bn, offn, hAn, -, hto⟩ := (hnd2 _ hS12).sum k HK.out
      rw [HVL.out] at hto
      subst hAn
      have q3 : (k : Int) < (rkv.length : Int) := by have := HK.out; omega
      clear hg hS11 hnd2
      go_wp2
      clear hto q3
      obtain ⟨D0, hD0⟩ : ∃ D0, D0 = w.heap.size := ⟨_, rfl⟩
      rw [← hD0] at hS12 ⊢
      clear hD0 HHAS HFD HTK HTB HIN HND HC HAG HER HK HVL HRES
      go_loopw [6] (fun i wx => ∃ (j : Nat) (v' : Value), i = .int .i64 (j : Int) ∧ j ≤ l.length ∧ Own w0 wx (rowE D0 29 (c8 d) :: rE Rr v' (.slice A2 n2 c2) :: qR w0.heap.size v' (g ++ grayEdges bk2 (l.take j)) :: bR w0.heap.size (.slice A2 n2 c2) bk2 :: nodesE w0.heap.size (.slice (some ⟨bn, offn, none⟩) rkv.length cv) rkv :: L)) (fun i _ => l.length - (intOf i).toNat)
      case atStart => exact ⟨0, .slice A1 g.length c1', rfl, by omega, by rw [List.take_zero, show g ++ grayEdges bk2 [] = g by simp [grayEdges]]; exact hS12⟩
      case round =>
        clear hS12
        obtain ⟨j, v', rfl, hj, hS⟩ := hrel
        by_cases hlt : j < l.length
        · have q1 : (j : Int) < (l.length : Int) := by omega
          have q2 : (j : Int) ≤ 4096 := by have := HLL.out; omega
          obtain ⟨-, hrl, -⟩ := own_slice (hS.ent (mem5 HM.out))
          obtain ⟨b2, off2, rfl, -⟩ := hrl.at_ j hlt
          have HX := Lib.hid (hrl.all.at_ j hlt)
          have HT := Lib.hid (grayEdges_take bk2 l j hlt)
          have HQL := Lib.hid (show (g ++ grayEdges bk2 (l.take j)).length ≤ 2000000 by
            have h1 : (grayEdges bk2 (l.take j)).length ≤ (l.take j).length := List.length_filter_le _ _
            have := HGL.out; have := HLL.out
            simp only [List.length_append, List.length_take] at *; omega)
          obtain ⟨x, hx⟩ : ∃ x, x = l.getD j [] := ⟨_, rfl⟩
          rw [← hx] at HX HT
          have HXE := Lib.hid hx
          have HJ := Lib.hid hlt
          obtain ⟨Q, hQ⟩ : ∃ Q, Q = g ++ grayEdges bk2 (l.take j) := ⟨_, rfl⟩
          rw [← hQ] at hS HQL
          have HQ := Lib.hid hQ
          obtain ⟨A3, c3, rfl, -, -⟩ := (hS.quR 2 rfl).open_
          have HIN := Lib.hid (fun (W : World) (h : Rows32 W A2 c2 bk2) => in_any A2 c2 n2 bk2 x W HN2.out.symm h HX.out HBL2.out)
          obtain ⟨tx, htx⟩ : ∃ tx, decide (x ∈ bk2) = tx := ⟨_, rfl⟩
          have HTX := Lib.hid htx
          rw [htx] at HIN
          clear hrl hx hQ htx hlt
          go_wp2
          have hS1 := hS.drew
          clear hS
          refine wp_region_mixC (fun W => Own w0 W _) (fun _ => true) [(0, true), (1, true), (2, true), (3, true), (4, true), (5, true), (6, true), (7, true), (8, false), (9, true)] (by kernel_rfl) (by kernel_rfl) hS1 ?_
          iterate 3 (refine wpMix_step rfl (fun K hK => ?_); go_simp; (try go_bits); with_reducible refine hK _ ?_; clear hK K)
          refine wpMix_pureW _ rfl rfl (fun W hW => run_load_cell 35 (.tmp 58) rfl Try.underlying35 rfl ⟨Rr, 1, none⟩ rfl _ (((hW.row 1 rfl).cell 1).trans rfl)) ?_
          iterate 3 (refine wpMix_step rfl (fun K hK => ?_); go_simp; (try go_bits); with_reducible refine hK _ ?_; clear hK K)
          refine wpMix_pureW (.agg (c8 x).toArray) rfl rfl (fun W hW => run_load_op 29 (.tmp 62) rfl Try.underlying29 rfl ⟨b2, off2 + j * 32, none⟩ rfl _ (info_a32 x HX.out) (by rw [HXE.out]; exact own_cells (hW.ent (mem5 HM.out)) j HJ.out)) ?_
          refine wpMix_loudW _ rfl rfl ?_
          go_wp2_with fail
          refine (HIN.out _ (own_slice (hS1.blR 3 rfl)).2.1).mono ?_
          rintro e w7 ⟨rfl, hg⟩
          have hS2 := hS1.call hg
          clear hg hS1
          go_wp2_with fail
          refine wpMix_next' (fun _ => hS2) ?_
          iterate 1 (refine wpMix_step rfl (fun K hK => ?_); go_simp; (try go_bits); with_reducible refine hK _ ?_; clear hK K)
          unfold wpMix
          cases tx with
          | true =>
            have hin : x ∈ bk2 := of_decide_eq_true HTX.out
            have HN := Lib.hid (show g ++ grayEdges bk2 (l.take (j + 1)) = Q by rw [HT.out, if_pos hin, HQ.out, List.append_nil])
            clear hin
            simp only [Bool.not_true]
            go_wp2_with fail
            go_roundw
            case rel => exact ⟨j + 1, _, by go_num, by have := HJ.out; omega, by rw [HN.out]; exact hS2⟩
            case measure => have := HJ.out; simp [intOf]; omega
          | false =>
            have hin : x ∉ bk2 := of_decide_eq_false HTX.out
            have HN := Lib.hid (show g ++ grayEdges bk2 (l.take (j + 1)) = Q ++ [x] by rw [HT.out, if_neg hin, HQ.out, List.append_assoc])
            clear hin
            simp only [Bool.not_false]
            go_wp2
            have hS14 := hS2.q1.drew
            clear hS2
            refine wp_region_mixC (fun W => Own w0 W (rowE D0 29 (c8 d) :: rE Rr (.slice A3 Q.length c3) (.slice A2 n2 c2) :: bR w0.heap.size (.slice A2 n2 c2) bk2 :: nodesE w0.heap.size (.slice (some ⟨bn, offn, none⟩) rkv.length cv) rkv :: L)) (fun i => i != 13) [(0, true), (1, true), (2, true), (3, true), (4, true), (5, true), (6, true), (7, true), (8, true), (9, false), (10, false), (11, false), (12, false), (13, false)] (by kernel_rfl) (by kernel_rfl) hS14.tail ?_
            iterate 4 (refine wpMix_step rfl (fun K hK => ?_); go_simp; (try go_bits); with_reducible refine hK _ ?_; clear hK K)
            refine wpMix_pureW _ rfl rfl (fun W hW => run_load_cell 35 (.tmp 69) rfl Try.underlying35 rfl ⟨Rr, 0, none⟩ rfl _ (((hW.row 1 rfl).cell 0).trans rfl)) ?_
            iterate 3 (refine wpMix_step rfl (fun K hK => ?_); go_simp; (try go_bits); with_reducible refine hK _ ?_; clear hK K)
            refine wpMix_pureW (.agg (c8 x).toArray) rfl rfl (fun W hW => run_load_op 29 (.tmp 73) rfl Try.underlying29 rfl ⟨b2, off2 + j * 32, none⟩ rfl _ (info_a32 x HX.out) (by rw [HXE.out]; exact own_cells (hW.ent (mem4 HM.out)) j HJ.out)) ?_
            refine wpMix_loudW _ rfl rfl ?_
            refine wp_built1 rfl 35 (.tmp 74) rfl 29 Try.underlying35 32 info_za (by omega) (by omega) (c8 x) (by rw [c8_length, HX.out]) rfl ?_
            intro w14 hr hg
            have hS15 := hS14.new hr hg
            have HR15 := Lib.hid hr
            clear hr hg hS14
            go_wp2_with fail
            refine wpMix_next' (fun _ => hS15.tail.tail) ?_
            refine wpMix_loudW _ rfl rfl ?_
            refine wp_appQ rfl (.tmp 70) (.tmp 75) 35 rfl 29 Try.underlying35 info_ra Q (Q ++ [x]) rfl (hS15.quR 1 rfl) ⟨_, 0, none⟩ 1 1 [x] rfl (by intro y hy; rw [List.mem_singleton.1 hy]; exact HX.out) (by rw [show c8 [x].flatten = c8 x from by simp]; exact row_all HR15.out) rfl rfl (by have := HQL.out; simp; omega) hS15.size ?_
            intro v5 w15 ho hg hv
            have hS16 := (hS15.write 1 rfl (queueE_good _ _ _ _) ho hg hv).tail
            simp only [List.set_cons_zero, List.set_cons_succ] at hS16
            obtain ⟨A5, c5, rfl, -, -⟩ := ho.open_
            clear ho hg hv hS15
            go_wp2_with fail
            refine wpMix_next' (fun _ => hS16.tail) ?_
            refine wpMix_loudW _ rfl rfl ?_
            go_wp2_with fail
            refine wpMix_next' (fun _ => hS16.tail) ?_
            refine wpMix_loudW _ rfl rfl ?_
            go_wp2_with fail
            refine wpMix_next' (fun _ => hS16.tail) ?_
            have cK := (hS16.rmk 2 rfl).cell 0
            have fK := (hS16.rmk 2 rfl).frozen 0
            simp at cK
            refine wpMix_loudW _ rfl rfl ?_
            go_wp2_with fail
            refine wpMix_next' (fun h => by cases h) ?_
            unfold wpMix
            have hS17 := hS16.set 2 rfl 0 (.slice A5 (Q ++ [x]).length c5)
            simp only [List.set_cons_zero, List.set_cons_succ] at hS17
            rw [show (Q ++ [x]).length = Q.length + 1 by simp] at hS17
            clear hS16
            have hS18 : Own w0 _ (rowE D0 29 (c8 d) :: rE Rr (.slice A5 (Q.length + 1) c5) (.slice A2 n2 c2) :: qR w0.heap.size (.slice A5 (Q.length + 1) c5) (Q ++ [x]) :: _) := hS17.q2
            clear hS17 cK fK
            go_wp2
            go_roundw
            case rel => exact ⟨j + 1, _, by go_num, by have := HJ.out; omega, by rw [HN.out]; exact hS18⟩
            case measure => have := HJ.out; simp [intOf]; omega
        · obtain rfl : j = l.length := by omega
          have q1 : ¬ ((l.length : Int) < (l.length : Int)) := by omega
          rw [List.take_length] at hS
          have HS := Lib.hid hS
          clear hS hlt hj
          go_wp2
          go_end0
          have HF := Lib.hid (show Own w0 wr (rE Rr v' (.slice A2 n2 c2) :: qR w0.heap.size v' res.1 :: bR w0.heap.size (.slice A2 n2 c2) res.2 :: nodesE w0.heap.size (.slice (some ⟨bn, offn, none⟩) rkv.length cv) rkv :: L) by rw [HR2.out]; exact HS.out.tail)
          first | exact ⟨_, _, rfl, HF.out⟩ | exact ⟨rfl, _, _, HF.out⟩ | exact ⟨_, rfl, _, HF.out⟩
end Go.Proofs.Ytnlnkojcbjaeeaa
