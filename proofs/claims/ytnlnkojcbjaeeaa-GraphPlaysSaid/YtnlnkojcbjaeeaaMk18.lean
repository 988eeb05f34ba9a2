/- The document's marker: Turn, Look. -/
import Derived.Test.YtnlnkojcbjaeeaaPLaw18
namespace Go.Proofs.Ytnlnkojcbjaeeaa
set_option linter.unusedVariables false
set_option linter.unusedSimpArgs false
set_option linter.unusedSectionVars false
open Go.RowKit
set_option linter.unusedVariables false
def rE (Rr : Nat) (gv bv : Value) : Ent := rowE Rr 56 [gv, bv]
def qR (base : Nat) (v : Value) (gray : List Dg) : Ent := queueE base 29 v gray
def bR (base : Nat) (v : Value) (l : List Dg) : Ent := rowsE base 29 v l
theorem Own.rmk {w0 w : World} {L : List Ent} {Rr : Nat} {gv bv : Value} (h : Own w0 w L) (i : Nat) (he : L[i]? = some (rE Rr gv bv)) : Row w Rr 56 [gv, bv] := h.at_ i he
theorem Own.quR {w0 w : World} {L : List Ent} {base : Nat} {v : Value} {l : List Dg} (h : Own w0 w L) (i : Nat) (he : L[i]? = some (qR base v l)) : OwnsQ w base 29 v l := h.at_ i he
theorem Own.blR {w0 w : World} {L : List Ent} {base : Nat} {v : Value} {l : List Dg} (h : Own w0 w L) (i : Nat) (he : L[i]? = some (bR base v l)) : OwnsR w base 29 v l := h.at_ i he
theorem Rows32.cells_at {w : World} {b off c : Nat} {L : List Dg} (h : Rows32 w (some ⟨b, off, none⟩) c L) (i : Nat) (hi : i < L.length) : ∀ j u, (c8 (L.getD i []))[j]? = some u → w.cell? ((⟨b, off + i * 32, none⟩ : Addr).add j) = some u := by
  obtain ⟨b', off', h1, h2⟩ := h.at_ i hi
  injection h1 with h1
  injection h1 with e1 e2
  subst e1; subst e2
  exact h2
theorem own_cells {w : World} {base b off c n : Nat} {L : List Dg} {t : TypeId} (h : OwnsR w base t (.slice (some ⟨b, off, none⟩) n c) L) (i : Nat) (hi : i < L.length) : ∀ j u, (c8 (L.getD i []))[j]? = some u → w.cell? ((⟨b, off + i * 32, none⟩ : Addr).add j) = some u := (own_slice h).2.1.cells_at i hi
def filD (l : List Dg) (d : Dg) : List Dg := l.filter (fun x => x != d)
theorem filD_take (l : List Dg) (d : Dg) (k : Nat) (h : k < l.length) : filD (l.take (k + 1)) d = filD (l.take k) d ++ (if l.getD k [] = d then [] else [l.getD k []]) := by
  unfold filD
  rw [List.take_succ_eq_append_getElem h, List.filter_append]
  congr 1
  have : l.getD k [] = l[k] := by simp [h]
  rw [this]
  by_cases hd : l[k] = d
  · rw [if_pos hd, List.filter_cons_of_neg (by simpa using hd)]; rfl
  · rw [if_neg hd, List.filter_cons_of_pos (by simpa using hd)]; rfl
theorem Own.turnSwap {w0 w : World} {L : List Ent} {n d r q o : Ent} (h : Own w0 w (n :: d :: r :: q :: o :: L)) : Own w0 w (d :: r :: q :: n :: L) := by
  have h1 := h.sub (((((List.Sublist.refl L).cons o).cons_cons q).cons_cons r).cons_cons d |>.cons_cons n)
  exact h1.perm (by
    have := (List.perm_append_comm (l₁ := [n]) (l₂ := [d, r, q])).append_right L
    simpa using this)
set_option maxRecDepth 100000 in
set_option maxHeartbeats 4000000 in
theorem turn_any (w0 w : World) (Rr b2 : Nat) (gv bv : Value) (gray black : List Dg) (L : List Ent) (d : Dg) (hd : d.length = 32) (hgl : gray.length ≤ 1000000) (hbl : black.length ≤ 100000) (hS : Own w0 w (rE Rr gv bv :: qR w0.heap.size gv gray :: bR b2 bv black :: L)) :
    Calls Try.prog 37 #[.pointer (some ⟨Rr, 0, none⟩), dgv d] w fun e w' => ∃ gv' bv', e = .returned (.tuple #[]) ∧ Own w0 w' (rE Rr gv' bv' :: qR w0.heap.size gv' (gray ++ [d]) :: bR w0.heap.size bv' (filD black d) :: L) := by
  have HD := Lib.hid hd
  have HGL := Lib.hid hgl
  have HBL := Lib.hid hbl
  obtain ⟨Ag, cg, rfl, -, -⟩ := (hS.quR 1 rfl).open_
  obtain ⟨Ab, cb, rfl, -, -⟩ := ownsR_open (hS.blR 2 rfl)
  obtain ⟨n, hn⟩ : ∃ n, n = black.length := ⟨_, rfl⟩
  rw [← hn] at hS
  have HN := Lib.hid hn
  have HNB := Lib.hid (show n ≤ 100000 by omega)
  clear hd hgl hbl hn
  go_enter Try.func37, Try.ntmps37
  go_wp2_with (refine wp_box (o := ⟨some 3, _, _, _, _, _⟩) rfl 29 (.tmp 1) rfl (c8 d) rfl ?_)
  intro w1 hr hg hz
  clear hz
  have hS1 : Own w0 w1 (bR w0.heap.size (.slice none 0 0) [] :: rowE w.heap.size 29 (c8 d) :: rE Rr (.slice Ag gray.length cg) (.slice Ab n cb) :: qR w0.heap.size (.slice Ag gray.length cg) gray :: bR b2 (.slice Ab n cb) black :: L) := (hS.new hr hg).nilR w0.heap.size 29
  clear hr hg hS
  go_wp2
  go_loopw [4, 5] (fun v i wr => ∃ k : Nat, k ≤ n ∧ i = .int .i64 k ∧ Own w0 wr (bR w0.heap.size v (filD (black.take k) d) :: rowE w.heap.size 29 (c8 d) :: rE Rr (.slice Ag gray.length cg) (.slice Ab n cb) :: qR w0.heap.size (.slice Ag gray.length cg) gray :: bR b2 (.slice Ab n cb) black :: L)) (fun _ i _ => n - (intOf i).toNat)
  case atStart => exact ⟨0, by omega, rfl, hS1⟩
  case round =>
    clear hS1
    obtain ⟨k, hk, rfl, hS⟩ := hrel
    have c1 := (hS.rmk 2 rfl).cell 1
    simp at c1
    by_cases hlt : k < n
    · have q1 : (k : Int) < (n : Int) := by omega
      have q2 : (k : Int) < 100000 := by have := HNB.out; omega
      have hkb : k < black.length := by rw [← HN.out]; exact hlt
      obtain ⟨-, hrb, -⟩ := own_slice (hS.blR 4 rfl)
      obtain ⟨b, off, rfl, -⟩ := hrb.at_ k hkb
      have hxl := hrb.all.at_ k hkb
      have hft := filD_take black d k hkb
      have hcl : (filD (black.take k) d).length ≤ 100000 := by
        have h1 : (filD (black.take k) d).length ≤ (black.take k).length := List.length_filter_le _ _
        simp only [List.length_take] at h1; have := HNB.out; omega
      obtain ⟨x, hx⟩ : ∃ x, x = black.getD k [] := ⟨_, rfl⟩
      obtain ⟨cur, hcur⟩ : ∃ cur, cur = filD (black.take k) d := ⟨_, rfl⟩
      rw [← hx] at hxl hft
      rw [← hcur] at hS hft hcl
      have HXL := Lib.hid hxl
      have HX := Lib.hid hx
      have HKB := Lib.hid hkb
      have HFT := Lib.hid hft
      have HCL := Lib.hid hcl
      have heq : ∀ W : World, (Op.equalIn 10000 29 (.agg (c8 x).toArray) (.agg (c8 d).toArray)).run Try.prog W = .ok (decide (x = d)) W := fun W => eq_a32 W x d HXL.out HD.out
      obtain ⟨r, hr⟩ : ∃ r, decide (x = d) = r := ⟨_, rfl⟩
      have HR0 := Lib.hid hr
      rw [hr] at heq
      clear hrb hxl hft hcl hx hcur hlt hkb hr
      go_wp2
      have hS1 := hS.drew
      clear hS
      refine wp_region_mixC (fun W => Own w0 W _) (fun _ => true) [(0, true), (1, true), (2, true), (3, true), (4, true), (5, true), (6, true), (7, true), (8, true)] (by kernel_rfl) (by kernel_rfl) hS1 ?_
      iterate 3 (refine wpMix_step rfl (fun K hK => ?_); go_simp; (try go_bits); with_reducible refine hK _ ?_; clear hK K)
      refine wpMix_pureW _ rfl rfl (fun W hW => run_load_cell 35 (.tmp 17) rfl Try.underlying35 rfl ⟨Rr, 1, none⟩ rfl _ (((hW.row 2 rfl).cell 1).trans rfl)) ?_
      iterate 2 (refine wpMix_step rfl (fun K hK => ?_); go_simp; (try go_bits); with_reducible refine hK _ ?_; clear hK K)
      refine wpMix_pureW (.agg (c8 x).toArray) rfl rfl (fun W hW => run_load_op 29 (.tmp 20) rfl Try.underlying29 rfl ⟨b, off + k * 32, none⟩ rfl _ (info_a32 x HXL.out) (by rw [HX.out]; exact own_cells (hW.blR 4 rfl) k HKB.out)) ?_
      refine wpMix_pureW (.agg (c8 d).toArray) rfl rfl (fun W hW => run_load_op 29 (.tmp 3) rfl Try.underlying29 rfl ⟨w.heap.size, 0, none⟩ rfl _ (info_a32 d HD.out) (row_all (hW.row 1 rfl))) ?_
      iterate 1 (refine wpMix_step rfl (fun K hK => ?_); go_simp; (try go_bits); with_reducible refine hK _ ?_; clear hK K)
      unfold wpMix
      clear c1
      have c1 := (hS1.rmk 2 rfl).cell 1
      simp only [List.getElem?_cons_succ, List.getElem?_cons_zero] at c1
      cases r with
      | true =>
        have HS2 := Lib.hid (show filD (black.take (k + 1)) d = cur by rw [HFT.out, if_pos (of_decide_eq_true HR0.out), List.append_nil])
        simp only [Bool.not_true]
        go_wp2_with fail
        go_roundw
        case rel => exact ⟨k + 1, by omega, by go_num, by rw [HS2.out]; exact hS1⟩
        case measure => simp [intOf]; omega
      | false =>
        have HS2 := Lib.hid (show filD (black.take (k + 1)) d = cur ++ [x] by rw [HFT.out, if_neg (of_decide_eq_false HR0.out)])
        have HC3 := Lib.hid (show ∀ j u, (c8 x)[j]? = some u → _ from (HX.out ▸ own_cells (hS1.blR 4 rfl) k HKB.out))
        simp only [Bool.not_false]
        go_wp2_with (first | (refine wp_load rfl 29 (.tmp 30) rfl Try.underlying29 rfl ⟨b, off + k * 32, none⟩ rfl (c8 x) (info_a32 x HXL.out) HC3.out ?_) | (refine wp_built1 rfl 35 (.tmp 31) rfl 29 Try.underlying35 32 info_za (by omega) (by omega) (c8 x) (by rw [c8_length]; exact HXL.out) rfl ?_))
        intro w7 hr hg
        have hS8 := hS1.new hr hg
        clear hS1 hr hg HC3 c1
        go_wp2_with (refine wp_appR rfl (.tmp 24) (.tmp 32) 35 rfl 29 Try.underlying35 info_ra cur (cur ++ [x]) rfl (hS8.blR 1 rfl) _ 1 1 [x] rfl (fun y hy => by rw [List.mem_singleton.1 hy]; exact HXL.out) (by simpa using src_row (hS8.row 0 rfl)) rfl rfl (by have := HCL.out; simp only [List.length_cons, List.length_nil]; omega) hS8.size ?_)
        intro v' w8 ho hg hv
        have hS9 := (hS8.appendR 1 rfl ho hg (by simpa using hv)).tail
        simp only [List.set_cons_zero, List.set_cons_succ] at hS9
        clear hS8 ho hg hv
        go_wp2
        go_roundw
        case rel => exact ⟨k + 1, by omega, by go_num, by rw [HS2.out]; exact hS9⟩
        case measure => simp [intOf] <;> omega
    · obtain rfl : k = n := by omega
      have q1 : ¬ ((k : Int) < (k : Int)) := by omega
      have hfe : filD (black.take k) d = filD black d := by rw [HN.out, List.take_length]
      rw [hfe] at hS
      obtain ⟨fb, hfb⟩ : ∃ fb, fb = filD black d := ⟨_, rfl⟩
      rw [← hfb] at hS
      have HFB := Lib.hid hfb
      obtain ⟨m, hm⟩ : ∃ m, m = fb.length := ⟨_, rfl⟩
      obtain ⟨Af, cf, rfl, -, -⟩ := ownsR_at (hS.blR 0 rfl) hm.symm
      have f1 := (hS.rmk 2 rfl).frozen 1
      clear hfe hfb hm hlt
      go_wp2
      have hS2 := hS.set 2 rfl 1 (.slice Af m cf)
      simp only [List.set_cons_zero, List.set_cons_succ] at hS2
      clear hS c1 f1
      have hS3 : Own w0 _ (rowE w.heap.size 29 (c8 d) :: rE Rr (.slice Ag gray.length cg) (.slice Af m cf) :: qR w0.heap.size (.slice Ag gray.length cg) gray :: bR w0.heap.size (.slice Af m cf) fb :: L) := hS2.turnSwap
      clear hS2
      have hS5 := hS3.drew
      clear hS3
      refine wp_region_mixC (fun W => Own w0 W [rowE w.heap.size 29 (c8 d), rE Rr (.slice Ag gray.length cg) (.slice Af m cf)]) (fun i => i != 10) [(0, true), (1, true), (2, true), (3, true), (4, true), (5, true), (6, false), (7, false), (8, false), (9, false), (10, false)] (by kernel_rfl) (by kernel_rfl) (hS5.sub (((List.nil_sublist _).cons_cons _).cons_cons _)) ?_
      iterate 4 (refine wpMix_step rfl (fun K hK => ?_); go_simp; (try go_bits); with_reducible refine hK _ ?_; clear hK K)
      refine wpMix_pureW _ rfl rfl (fun W hW => run_load_cell 35 (.tmp 41) rfl Try.underlying35 rfl ⟨Rr, 0, none⟩ rfl _ (((hW.row 1 rfl).cell 0).trans rfl)) ?_
      refine wpMix_pureW (.agg (c8 d).toArray) rfl rfl (fun W hW => run_load_op 29 (.tmp 3) rfl Try.underlying29 rfl ⟨w.heap.size, 0, none⟩ rfl _ (info_a32 d HD.out) (row_all (hW.row 0 rfl))) ?_
      refine wpMix_loudW _ rfl rfl ?_
      refine wp_built1 rfl 35 (.tmp 43) rfl 29 Try.underlying35 32 info_za (by omega) (by omega) (c8 d) (by rw [c8_length, HD.out]) rfl ?_
      intro w4 hr hg
      have hS6 := hS5.new hr hg
      have HR6 := Lib.hid hr
      clear hr hg hS5
      go_wp2_with fail
      refine wpMix_next' (fun _ => hS6.tail.sub (((List.nil_sublist _).cons_cons _).cons_cons _)) ?_
      refine wpMix_loudW _ rfl rfl ?_
      refine wp_appQ rfl (.tmp 42) (.tmp 44) 35 rfl 29 Try.underlying35 info_ra gray (gray ++ [d]) rfl (hS6.quR 3 rfl) ⟨_, 0, none⟩ 1 1 [d] rfl (by intro y hy; rw [List.mem_singleton.1 hy]; exact HD.out) (by rw [show c8 [d].flatten = c8 d from by simp]; exact row_all HR6.out) rfl rfl (by have := HGL.out; simp; omega) hS6.size ?_
      intro v' w5 ho hg hv
      have hS7 := hS6.write 3 rfl (queueE_good _ _ _ _) ho hg hv
      simp only [List.set_cons_zero, List.set_cons_succ] at hS7
      obtain ⟨A', c', rfl, -, -⟩ := ho.open_
      clear ho hg hv hS6
      go_wp2_with fail
      refine wpMix_next' (fun _ => hS7.tail.sub (((List.nil_sublist _).cons_cons _).cons_cons _)) ?_
      refine wpMix_loudW _ rfl rfl ?_
      go_wp2_with fail
      refine wpMix_next' (fun _ => hS7.tail.sub (((List.nil_sublist _).cons_cons _).cons_cons _)) ?_
      refine wpMix_loudW _ rfl rfl ?_
      go_wp2_with fail
      refine wpMix_next' (fun _ => hS7.tail.sub (((List.nil_sublist _).cons_cons _).cons_cons _)) ?_
      have cK := (hS7.rmk 2 rfl).cell 0
      have fK := (hS7.rmk 2 rfl).frozen 0
      simp at cK
      refine wpMix_loudW _ rfl rfl ?_
      go_wp2_with fail
      refine wpMix_next' (fun h => by cases h) ?_
      unfold wpMix
      have hS8 := hS7.set 2 rfl 0 (.slice A' (gray ++ [d]).length c')
      simp only [List.set_cons_zero, List.set_cons_succ] at hS8
      rw [show (gray ++ [d]).length = gray.length + 1 by simp] at hS8
      clear hS7
      go_wp2
      go_end0
      exact ⟨_, _, rfl, by rw [← HFB.out]; exact hS8.tail.tail⟩
end Go.Proofs.Ytnlnkojcbjaeeaa
