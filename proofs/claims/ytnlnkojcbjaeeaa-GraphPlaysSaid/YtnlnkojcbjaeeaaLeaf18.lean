/- The marker's and the graph's small methods. -/
import Derived.Test.YtnlnkojcbjaeeaaNil18
namespace Go.Proofs.Ytnlnkojcbjaeeaa
set_option linter.unusedVariables false
set_option linter.unusedSimpArgs false
set_option linter.unusedSectionVars false
open Go.RowKit
set_option linter.unusedVariables false
def kE (K G : Nat) (v : Value) (B : Nat) : Ent := rowE K 79 [.pointer (some ⟨G, 0, none⟩), v, .map (some B)]
def qE (base : Nat) (v : Value) (gray : List Dg) : Ent := queueE base 30 v gray
theorem Own.mkr {w0 w : World} {L : List Ent} {K G B : Nat} {v : Value} (h : Own w0 w L) (i : Nat) (he : L[i]? = some (kE K G v B)) : Row w K 79 [.pointer (some ⟨G, 0, none⟩), v, .map (some B)] := h.at_ i he
theorem Own.que {w0 w : World} {L : List Ent} {base : Nat} {v : Value} {l : List Dg} (h : Own w0 w L) (i : Nat) (he : L[i]? = some (qE base v l)) : OwnsQ w base 30 v l := h.at_ i he
def Units (blk : KV) : Prop := ∀ p ∈ blk, p.2 = .agg #[]
theorem Units.val {blk : KV} (h : Units blk) (d : Dg) : (lookKV blk d).getD (.agg #[]) = .agg #[] := by
  unfold lookKV
  cases hf : blk.find? (fun p => p.1 == d) with
  | none => rfl
  | some p => exact h p (List.mem_of_find?_eq_some hf)
theorem lookU {w : World} {b : Nat} {kv : KV} (h : MapAt w b kv) (hu : Units kv) (k : Dg) (hk : k.length = 32) :
    (Instr.lookup MB (.map (some b)) (dgv k) true).run Try.prog w = .ok (.tuple #[.agg #[], .bool (hasKV kv k)]) w := by
  have := lookB h k hk
  rwa [hu.val] at this
theorem lookG' {w : World} {b : Nat} {kv : KV} (h : MapAt w b kv) (k : Dg) (hk : k.length = 32) {v : Value} (hv : (lookKV kv k).getD (.slice none 0 0) = v) :
    (Instr.lookup MG (.map (some b)) (dgv k) true).run Try.prog w = .ok (.tuple #[v, .bool (hasKV kv k)]) w := by
  rw [← hv]; exact lookG h k hk
theorem lookG2 {w : World} {b : Nat} {kv : KV} (h : MapAt w b kv) (k : Dg) (hk : k.length = 32) {v : Value} (hv : (lookKV kv k).getD (.slice none 0 0) = v) {t : Bool} (ht : hasKV kv k = t) :
    (Instr.lookup MG (.map (some b)) (dgv k) true).run Try.prog w = .ok (.tuple #[v, .bool t]) w := by
  rw [← hv, ← ht]; exact lookG h k hk
theorem del_none {kv : KV} {d : Dg} (h : hasKV kv d = false) : delKV kv d = kv := by
  unfold delKV
  refine List.filter_eq_self.2 fun q hq => ?_
  have hh : ¬ (q.1 == d) = true := fun hqk => by
    have : hasKV kv d = true := List.any_eq_true.2 ⟨q, hq, hqk⟩
    rw [h] at this; cases this
  simpa using hh
set_option maxRecDepth 100000 in
set_option maxHeartbeats 1000000 in
theorem left_any (w0 w : World) (K G B : Nat) (v : Value) (gray : List Dg) (L : List Ent) (base : Nat) (hS : Own w0 w (kE K G v B :: qE base v gray :: L)) :
    Calls Try.prog 19 #[.pointer (some ⟨K, 0, none⟩)] w fun e w' => e = .returned (.int .i64 (gray.length : Int)) ∧ w.grownBy w' none := by
  obtain ⟨A, c, rfl, hR, hc⟩ := (hS.que 1 rfl).open_
  have h1 := (hS.mkr 0 rfl).cell 1
  simp at h1
  clear hR hc hS
  go_enter Try.func19, Try.ntmps19
  go_wp2
  go_ret
  exact ⟨rfl, grownBy_refl _ _⟩
set_option maxRecDepth 100000 in
set_option maxHeartbeats 1000000 in
theorem marked_any (w0 w : World) (K G B : Nat) (v : Value) (blk : KV) (q : Ent) (L : List Ent) (d : Dg) (hd : d.length = 32) (hv : Units blk) (hS : Own w0 w (kE K G v B :: q :: mapE B blk :: L)) :
    Calls Try.prog 21 #[.pointer (some ⟨K, 0, none⟩), dgv d] w fun e w' => e = .returned (.bool (hasKV blk d)) ∧ w.grownBy w' none := by
  have HD := Lib.hid hd
  have HV := Lib.hid hv
  have hT := Own.start w
  clear hd hv
  go_enter Try.func21, Try.ntmps21
  go_wp2_with (refine wp_box (o := ⟨some 3, _, _, _, _, _⟩) rfl 30 (.tmp 1) rfl (c8 d) rfl ?_)
  intro w1 hr hg hz
  clear hz
  have hS1 := hS.new hr hg
  have hT1 := hT.call hg
  clear hr hg hS hT
  go_wp2
  have hS2 := hS1.drew
  clear hS1
  refine wp_region_mixC (fun W => Own w0 W _) (fun _ => true) [(0, true), (1, true), (2, true), (3, true), (4, true), (5, true), (6, true), (7, true), (8, true), (9, false), (10, false), (11, false)] (by kernel_rfl) (by kernel_rfl) hS2 ?_
  iterate 3 (refine wpMix_step rfl (fun K hK => ?_); go_simp; (try go_bits); with_reducible refine hK _ ?_; clear hK K)
  refine wpMix_pureW _ rfl rfl (fun W hW => run_load_cell 77 (.tmp 12) rfl Try.underlying77 rfl ⟨K, 2, none⟩ rfl _ (((hW.row 1 rfl).cell 2).trans rfl)) ?_
  refine wpMix_pureW (.agg (c8 d).toArray) rfl rfl (fun W hW => run_load_op 30 (.tmp 3) rfl Try.underlying30 rfl ⟨w.heap.size, 0, none⟩ rfl _ (info_dg d HD.out) (row_all (hW.row 0 rfl))) ?_
  refine wpMix_pureW _ rfl rfl (fun W hW => run_lookup_op MB (.tmp 13) (.tmp 14) rfl B d rfl rfl _ (lookU (hW.map 3 rfl) HV.out d HD.out)) ?_
  iterate 3 (refine wpMix_step rfl (fun K hK => ?_); go_simp; (try go_bits); with_reducible refine hK _ ?_; clear hK K)
  refine wpMix_loudW _ rfl rfl ?_
  go_wp2_with fail
  have hS3 := hS2.call (World.grownBy_alloc _ (.cells #[] 76) none)
  have hT3 := hT1.call (World.grownBy_alloc _ (.cells #[] 76) none)
  clear hS2 hT1
  refine wpMix_next' (fun _ => hS3) ?_
  refine wpMix_loudW _ rfl rfl ?_
  go_wp2_with fail
  refine wpMix_next' (fun _ => hS3) ?_
  refine wpMix_loudW _ rfl rfl ?_
  go_wp2_with fail
  refine wpMix_next' (fun _ => hS3) ?_
  unfold wpMix
  go_wp2
  go_ret
  exact ⟨rfl, hT3.drew.grown⟩
set_option maxRecDepth 100000 in
set_option maxHeartbeats 1000000 in
theorem mark_any (w : World) (G : Nat) (A : Option Addr) (c : Nat) (roots : List Dg) (hR : Rows32 w A c roots) (hl : roots.length ≤ 4096) :
    Calls Try.prog 18 #[.pointer (some ⟨G, 0, none⟩), .slice A roots.length c] w fun e w' => ∃ K B v, e = .returned (.pointer (some ⟨K, 0, none⟩)) ∧ Own w w' [kE K G v B, mapE B [], qE w.heap.size v roots] := by
  have k1 := clone_any A c roots w hR hl
  have hS0 := Own.start w
  have hmk := fun W => run_makeMap (P := Try.prog) 77 W
  clear hR hl
  go_enter Try.func18, Try.ntmps18
  go_wp2_with fail
  refine k1.mono ?_
  rintro e w1 ⟨v, rfl, ho, hg⟩
  obtain ⟨A', c', rfl, -, -⟩ := ownsR_open ho
  have hS1 := hS0.madeR ho hg
  have hS2 : Own w w1 [qE w.heap.size (.slice A' roots.length c') roots] := hS1.turn (i := 0) rfl (queueE_good _ _ _ _) (OwnsR.queue ho) rfl
  have hS3 : Own w (w1.alloc (.map #[] 0)) [mapE w1.heap.size [], qE w.heap.size (.slice A' roots.length c') roots] := hS2.newE (World.grownBy_alloc _ _ none) (mapE_good _ _) (MapAt.made w1) (fun k hk => by cases hk; exact Nat.le_refl _)
  clear ho hg hS1 hS2 hS0 k1
  go_wp2_with (refine wp_box (o := ⟨some 12, _, _, _, _, _⟩) rfl 79 (.tmp 11) rfl [.pointer (some ⟨G, 0, none⟩), .slice A' roots.length c', .map (some w1.heap.size)] rfl ?_)
  intro w2 hr hg hz
  clear hz
  have hS4 := hS3.new (by simpa using hr) hg
  clear hr hg hS3
  go_wp2
  go_ret
  rw [World.size_alloc] at hS4
  exact ⟨_, _, _, rfl, hS4⟩
set_option maxRecDepth 100000 in
set_option maxHeartbeats 1000000 in
theorem edges_any (w0 w : World) (G M : Nat) (kv : KV) (L : List Ent) (d : Dg) (l : List Dg) (base : Nat) (v : Value) (hd : d.length = 32) (hS : Own w0 w (gE G M :: mapE M kv :: L)) (hv : (lookKV kv d).getD (.slice none 0 0) = v) (ho : OwnsR w base 30 v l) (hl : l.length ≤ 4096) :
    Calls Try.prog 25 #[.pointer (some ⟨G, 0, none⟩), dgv d] w fun e w' => ∃ v', e = .returned (.tuple #[v', .bool (hasKV kv d)]) ∧ OwnsR w' w.heap.size 30 v' l ∧ w.grownBy w' none := by
  have HD := Lib.hid hd
  have HL := Lib.hid hl
  obtain ⟨A, c, rfl, hR, -⟩ := ownsR_open ho
  have hV := Lib.hid hv
  have hT := Own.start w
  clear hd hl hv ho
  go_enter Try.func25, Try.ntmps25
  go_wp2_with (refine wp_box (o := ⟨some 3, _, _, _, _, _⟩) rfl 30 (.tmp 1) rfl (c8 d) rfl ?_)
  intro w1 hr hg hz
  clear hz
  have hS1 := hS.new hr hg
  have hT1 := hT.call hg
  have hR1 := Lib.hid (hR.keep hg)
  clear hr hg hS hT hR
  go_wp2
  have hS2 := hS1.drew
  clear hS1
  refine wp_region_mixC (fun W => Own w0 W _) (fun _ => true) [(0, true), (1, true), (2, true), (3, true), (4, true), (5, true), (6, true), (7, true), (8, true), (9, false), (10, false)] (by kernel_rfl) (by kernel_rfl) hS2 ?_
  iterate 3 (refine wpMix_step rfl (fun K hK => ?_); go_simp; (try go_bits); with_reducible refine hK _ ?_; clear hK K)
  refine wpMix_pureW _ rfl rfl (fun W hW => run_load_cell 70 (.tmp 13) rfl Try.underlying70 rfl ⟨G, 0, none⟩ rfl _ (((hW.row 1 rfl).cell 0).trans rfl)) ?_
  refine wpMix_pureW (.agg (c8 d).toArray) rfl rfl (fun W hW => run_load_op 30 (.tmp 3) rfl Try.underlying30 rfl ⟨w.heap.size, 0, none⟩ rfl _ (info_dg d HD.out) (row_all (hW.row 0 rfl))) ?_
  refine wpMix_pureW _ rfl rfl (fun W hW => run_lookup_op MG (.tmp 14) (.tmp 15) rfl M d rfl rfl _ (lookG' (hW.map 2 rfl) d HD.out hV.out)) ?_
  iterate 3 (refine wpMix_step rfl (fun K hK => ?_); go_simp; (try go_bits); with_reducible refine hK _ ?_; clear hK K)
  refine wpMix_loudW _ rfl rfl ?_
  go_wp2_with fail
  refine wpMix_next' (fun _ => hS2) ?_
  refine wpMix_loudW _ rfl rfl ?_
  go_wp2_with fail
  refine wpMix_next' (fun _ => hS2) ?_
  unfold wpMix
  go_wp2_with fail
  refine (clone_any A c l _ hR1.out.drew HL.out).mono ?_
  rintro e w2 ⟨v', rfl, ho, hg⟩
  have hT2 := hT1.drew.call hg
  have ho2 := ho.mono hT1.size
  clear hg ho
  go_wp2
  refine bodyPost_ret (results_tmp2 rfl _ _ _) rfl ⟨v', rfl, ho2, hT2.grown⟩
set_option maxRecDepth 100000 in
set_option maxHeartbeats 1000000 in
theorem drop_any (w0 w : World) (G M : Nat) (kv : KV) (L : List Ent) (d : Dg) (hd : d.length = 32) (hS : Own w0 w (gE G M :: mapE M kv :: L)) :
    Calls Try.prog 31 #[.pointer (some ⟨G, 0, none⟩), dgv d] w fun e w' => e = .returned (.int .i64 (if hasKV kv d then 0 else 6)) ∧ Own w0 w' (gE G M :: mapE M (delKV kv d) :: L) := by
  have HD := Lib.hid hd
  obtain ⟨v, hv⟩ : ∃ v, (lookKV kv d).getD (.slice none 0 0) = v := ⟨_, rfl⟩
  have hV := Lib.hid hv
  obtain ⟨b, hb⟩ : ∃ b, hasKV kv d = b := ⟨_, rfl⟩
  have hB := Lib.hid hb
  obtain ⟨r, hr0⟩ : ∃ r : Int, (if hasKV kv d then 0 else 6) = r := ⟨_, rfl⟩
  have HR0 := Lib.hid hr0
  rw [hr0]
  clear hd hv hb hr0
  go_enter Try.func31, Try.ntmps31
  go_wp2_with (refine wp_box (o := ⟨some 3, _, _, _, _, _⟩) rfl 30 (.tmp 1) rfl (c8 d) rfl ?_)
  intro w1 hr hg hz
  clear hz
  have hS1 := hS.new hr hg
  clear hr hg hS
  go_wp2
  have hS2 := hS1.drew
  clear hS1
  refine wp_region_mixC (fun W => Own w0 W _) (fun _ => true) [(0, true), (1, true), (2, true), (3, true), (4, true), (5, true), (6, true), (7, true), (8, true), (9, false), (10, false)] (by kernel_rfl) (by kernel_rfl) hS2 ?_
  iterate 3 (refine wpMix_step rfl (fun K hK => ?_); go_simp; (try go_bits); with_reducible refine hK _ ?_; clear hK K)
  refine wpMix_pureW _ rfl rfl (fun W hW => run_load_cell 70 (.tmp 12) rfl Try.underlying70 rfl ⟨G, 0, none⟩ rfl _ (((hW.row 1 rfl).cell 0).trans rfl)) ?_
  refine wpMix_pureW (.agg (c8 d).toArray) rfl rfl (fun W hW => run_load_op 30 (.tmp 3) rfl Try.underlying30 rfl ⟨w.heap.size, 0, none⟩ rfl _ (info_dg d HD.out) (row_all (hW.row 0 rfl))) ?_
  refine wpMix_pureW _ rfl rfl (fun W hW => run_lookup_op MG (.tmp 13) (.tmp 14) rfl M d rfl rfl _ (lookG2 (hW.map 2 rfl) d HD.out hV.out hB.out)) ?_
  iterate 3 (refine wpMix_step rfl (fun K hK => ?_); go_simp; (try go_bits); with_reducible refine hK _ ?_; clear hK K)
  refine wpMix_loudW _ rfl rfl ?_
  go_wp2_with fail
  refine wpMix_next' (fun _ => hS2) ?_
  refine wpMix_loudW _ rfl rfl ?_
  go_wp2_with fail
  refine wpMix_next' (fun _ => hS2) ?_
  unfold wpMix
  cases b with
  | false =>
    go_wp2
    go_ret
    refine ⟨by rw [← HR0.out, hB.out]; rfl, ?_⟩
    have : delKV kv d = kv := del_none hB.out
    rw [this]
    exact hS2.tail
  | true =>
    go_wp2
    have hS3 := hS2.drew
    clear hS2
    refine wp_region_mixC (fun W => Own w0 W [rowE w.heap.size 30 (c8 d), gE G M]) (fun _ => true) [(0, true), (1, true), (2, true), (3, true), (4, true), (5, false)] (by kernel_rfl) (by kernel_rfl) (hS3.sub (((List.nil_sublist _).cons_cons _).cons_cons _)) ?_
    iterate 3 (refine wpMix_step rfl (fun K hK => ?_); go_simp; (try go_bits); with_reducible refine hK _ ?_; clear hK K)
    refine wpMix_pureW _ rfl rfl (fun W hW => run_load_cell 70 (.tmp 22) rfl Try.underlying70 rfl ⟨G, 0, none⟩ rfl _ (((hW.row 1 rfl).cell 0).trans rfl)) ?_
    refine wpMix_pureW (.agg (c8 d).toArray) rfl rfl (fun W hW => run_load_op 30 (.tmp 3) rfl Try.underlying30 rfl ⟨w.heap.size, 0, none⟩ rfl _ (info_dg d HD.out) (row_all (hW.row 0 rfl))) ?_
    refine wpMix_loudW _ rfl rfl ?_
    refine wp_mapdel rfl MG 30 (.tmp 23) (.tmp 24) rfl M d rfl rfl (delG (hS3.map 2 rfl) d HD.out) ?_
    intro w3 hm hg
    have hS4 := hS3.mapSet 2 rfl hm hg
    simp only [List.set_cons_zero, List.set_cons_succ] at hS4
    clear hm hg hS3
    go_wp2_with fail
    refine wpMix_next' (fun _ => hS4.sub (((List.nil_sublist _).cons_cons _).cons_cons _)) ?_
    unfold wpMix
    go_wp2
    go_ret
    exact ⟨by rw [← HR0.out, hB.out]; rfl, hS4.tail⟩
set_option maxRecDepth 100000 in
set_option maxHeartbeats 1000000 in
theorem gray_any (w0 w : World) (K G B base : Nat) (v : Value) (blk : KV) (gray : List Dg) (L : List Ent) (d : Dg) (hd : d.length = 32) (hbase : base ≤ w.heap.size) (hl : gray.length ≤ 100000) (hS : Own w0 w (kE K G v B :: mapE B blk :: qE base v gray :: L)) :
    Calls Try.prog 22 #[.pointer (some ⟨K, 0, none⟩), dgv d] w fun e w' => ∃ v', e = .returned (.int .i64 0) ∧ Own w0 w' (kE K G v' B :: mapE B (delKV blk d) :: qE base v' (gray ++ [d]) :: L) := by
  have HD := Lib.hid hd
  have HL := Lib.hid hl
  have HB := Lib.hid hbase
  clear hd hl hbase
  go_enter Try.func22, Try.ntmps22
  go_wp2_with (refine wp_box (o := ⟨some 3, _, _, _, _, _⟩) rfl 30 (.tmp 1) rfl (c8 d) rfl ?_)
  intro w1 hr hg hz
  clear hz
  have hS1 := hS.new hr hg
  have hs1 := Lib.hid (Nat.le_trans HB.out hg.size)
  clear hr hg hS HB
  go_wp2
  have hS3 := hS1.drew
  clear hS1
  refine wp_region_mixC (fun W => Own w0 W [rowE w.heap.size 30 (c8 d), kE K G v B]) (fun _ => true) [(0, true), (1, true), (2, true), (3, true), (4, true), (5, false)] (by kernel_rfl) (by kernel_rfl) (hS3.sub (((List.nil_sublist _).cons_cons _).cons_cons _)) ?_
  iterate 3 (refine wpMix_step rfl (fun K hK => ?_); go_simp; (try go_bits); with_reducible refine hK _ ?_; clear hK K)
  refine wpMix_pureW _ rfl rfl (fun W hW => run_load_cell 77 (.tmp 9) rfl Try.underlying77 rfl ⟨K, 2, none⟩ rfl _ (((hW.row 1 rfl).cell 2).trans rfl)) ?_
  refine wpMix_pureW (.agg (c8 d).toArray) rfl rfl (fun W hW => run_load_op 30 (.tmp 3) rfl Try.underlying30 rfl ⟨w.heap.size, 0, none⟩ rfl _ (info_dg d HD.out) (row_all (hW.row 0 rfl))) ?_
  refine wpMix_loudW _ rfl rfl ?_
  refine wp_mapdel rfl MB 30 (.tmp 10) (.tmp 11) rfl B d rfl rfl (delB (hS3.map 2 rfl) d HD.out) ?_
  intro w3 hm hg
  have hS4 := hS3.mapSet 2 rfl hm hg
  have hs4 := Lib.hid (Nat.le_trans hs1.out hg.size)
  simp only [List.set_cons_zero, List.set_cons_succ] at hS4
  clear hm hg hS3
  go_wp2_with fail
  refine wpMix_next' (fun _ => hS4.sub (((List.nil_sublist _).cons_cons _).cons_cons _)) ?_
  unfold wpMix
  go_wp2
  obtain ⟨A, c, rfl, -, -⟩ := (hS4.que 3 rfl).open_
  have c1 := (hS4.mkr 1 rfl).cell 1
  have hS5 := hS4.drew
  clear hS4 c1
  refine wp_region_mixC (fun W => Own w0 W [rowE w.heap.size 30 (c8 d), kE K G (.slice A gray.length c) B]) (fun i => i != 10) [(0, true), (1, true), (2, true), (3, true), (4, true), (5, true), (6, false), (7, false), (8, false), (9, false), (10, false)] (by kernel_rfl) (by kernel_rfl) (hS5.sub (((List.nil_sublist _).cons_cons _).cons_cons _)) ?_
  iterate 4 (refine wpMix_step rfl (fun K hK => ?_); go_simp; (try go_bits); with_reducible refine hK _ ?_; clear hK K)
  refine wpMix_pureW _ rfl rfl (fun W hW => run_load_cell 32 (.tmp 15) rfl Try.underlying32 rfl ⟨K, 1, none⟩ rfl _ (((hW.row 1 rfl).cell 1).trans rfl)) ?_
  refine wpMix_pureW (.agg (c8 d).toArray) rfl rfl (fun W hW => run_load_op 30 (.tmp 3) rfl Try.underlying30 rfl ⟨w.heap.size, 0, none⟩ rfl _ (info_dg d HD.out) (row_all (hW.row 0 rfl))) ?_
  refine wpMix_loudW _ rfl rfl ?_
  refine wp_built1 rfl 32 (.tmp 17) rfl 30 Try.underlying32 32 info_zd (by omega) (by omega) (c8 d) (by rw [c8_length, HD.out]) rfl ?_
  intro w4 hr hg
  have hS6 := hS5.new hr hg
  have hs6 := Lib.hid (Nat.le_trans hs4.out hg.size)
  have HR6 := Lib.hid hr
  clear hr hg hS5
  go_wp2_with fail
  refine wpMix_next' (fun _ => hS6.tail.sub (((List.nil_sublist _).cons_cons _).cons_cons _)) ?_
  refine wpMix_loudW _ rfl rfl ?_
  refine wp_appQ rfl (.tmp 16) (.tmp 18) 32 rfl 30 Try.underlying32 info_rd gray (gray ++ [d]) rfl (hS6.que 4 rfl) ⟨w3.drew.heap.size, 0, none⟩ 1 1 [d] rfl (by intro y hy; rw [List.mem_singleton.1 hy]; exact HD.out) (by rw [show c8 [d].flatten = c8 d from by simp]; exact row_all HR6.out) rfl rfl (by have := HL.out; simp; omega) hs6.out ?_
  intro v' w5 ho hg hv
  have hS7 := hS6.write 4 rfl (queueE_good _ _ _ _) ho hg hv
  simp only [List.set_cons_zero, List.set_cons_succ] at hS7
  obtain ⟨A', c', rfl, -, -⟩ := ho.open_
  clear ho hg hv hS6
  go_wp2_with fail
  refine wpMix_next' (fun _ => hS7.tail.sub (((List.nil_sublist _).cons_cons _).cons_cons _)) ?_
  refine wpMix_loudW _ rfl rfl ?_
  go_wp2_with fail
  refine wpMix_next' (fun _ => hS7.tail.sub (((List.nil_sublist _).cons_cons _).cons_cons _)) ?_
  refine wpMix_loudW _ rfl rfl ?_
  go_wp2_with fail
  refine wpMix_next' (fun _ => hS7.tail.sub (((List.nil_sublist _).cons_cons _).cons_cons _)) ?_
  have cK := (hS7.mkr 2 rfl).cell 1
  have fK := (hS7.mkr 2 rfl).frozen 1
  simp at cK
  refine wpMix_loudW _ rfl rfl ?_
  go_wp2_with fail
  refine wpMix_next' (fun h => by cases h) ?_
  unfold wpMix
  have hS8 := hS7.set 2 rfl 1 (.slice A' (gray ++ [d]).length c')
  simp only [List.set_cons_zero, List.set_cons_succ] at hS8
  rw [show (gray ++ [d]).length = gray.length + 1 by simp] at hS8
  clear hS7
  go_wp2
  go_ret
  exact ⟨_, rfl, hS8.tail.tail⟩
end Go.Proofs.Ytnlnkojcbjaeeaa
