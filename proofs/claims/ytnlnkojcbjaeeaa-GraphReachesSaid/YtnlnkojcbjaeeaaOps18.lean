/- The graph's maps at the operation; New, Put. -/
import Derived.Test.YtnlnkojcbjaeeaaClone18
namespace Go.Proofs.Ytnlnkojcbjaeeaa
set_option linter.unusedVariables false
set_option linter.unusedSimpArgs false
set_option linter.unusedSectionVars false
open Go.RowKit
set_option linter.unusedVariables false
section
variable {P : Program} {w : World} {ops : Array Oper} {rest : List Oper} {o : Oper} {a : Act} {Q : Exit → Act → World → Prop}
theorem run_lookup_op (t : TypeId) (m x : Operand) (ho : o.op = .lookup t m x true) (b : Nat) (d : Dg) (hm : a.eval m = .map (some b)) (hx : a.eval x = dgv d) (r : Value)
    (h : (Instr.lookup t (.map (some b)) (dgv d) true).run P w = .ok r w) : (execOp a.eval o).run P w = .ok (.value r) w := by
  simp [execOp, ho, hm, hx, h, Result.andThen]
theorem wp_mapput (hgd : o.guard = none) (t : TypeId) (m x v : Operand) (ho : o.op = .mapUpdate t m x v) (b : Nat) (d : Dg) (u : Value) (hm : a.eval m = .map (some b)) (hx : a.eval x = dgv d) (hv : a.eval v = u) {kv : KV}
    (run : ∃ w', (Instr.mapUpdate t (.map (some b)) (dgv d) u).run P w = .ok () w' ∧ MapAt w' b (putKV kv d u) ∧ w.grownBy w' (some b) ∧ w'.heap.size = w.heap.size)
    (h : ∀ w', MapAt w' b (putKV kv d u) → w.grownBy w' (some b) → wpList P ops Q rest (a.put o.dst undef) w') : wpList P ops Q (o :: rest) a w := by
  refine wpList_plain hgd fun K' hK' => ?_
  obtain ⟨w', hrun, r1, r2, _⟩ := run
  unfold Oper.wp
  simp [execOp, ho, hm, hx, hv, hrun, Result.andThen]
  exact hK' _ _ (h w' r1 r2)
theorem wp_mapdel (hgd : o.guard = none) (t k : TypeId) (m x : Operand) (ho : o.op = .call { callee := .builtin .delete, args := #[m, x], argTypes := #[t, k] }) (b : Nat) (d : Dg) (hm : a.eval m = .map (some b)) (hx : a.eval x = dgv d) {kv : KV}
    (run : ∃ w', (Builtin.delete_ #[t, k] o.type #[.map (some b), dgv d]).run P w = .ok (.tuple #[]) w' ∧ MapAt w' b (delKV kv d) ∧ w.grownBy w' (some b) ∧ w'.heap.size = w.heap.size)
    (h : ∀ w', MapAt w' b (delKV kv d) → w.grownBy w' (some b) → wpList P ops Q rest (a.put o.dst (.tuple #[])) w') : wpList P ops Q (o :: rest) a w := by
  refine wpList_plain hgd fun K' hK' => ?_
  obtain ⟨w', hrun, r1, r2, _⟩ := run
  unfold Oper.wp
  simp [execOp, ho, resolve, invoke, builtin, hm, hx, hrun, Result.andThen]
  exact hK' _ _ (h w' r1 r2)
end
theorem Own.mapSet {w0 w w' : World} {L : List Ent} {b : Nat} {kv kv' : KV} (h : Own w0 w L) (i : Nat) (he : L[i]? = some (mapE b kv)) (hm : MapAt w' b kv') (hg : w.grownBy w' (some b)) : Own w0 w' (L.set i (mapE b kv')) :=
  h.write i he (mapE_good b kv') hm hg (.inl rfl)

def gE (G M : Nat) : Ent := rowE G 72 [.map (some M)]
theorem gE_good (G M : Nat) : (gE G M).good := rowE_good _ _ _
theorem Own.gr {w0 w : World} {L : List Ent} {G M : Nat} (h : Own w0 w L) (i : Nat) (he : L[i]? = some (gE G M)) : Row w G 72 [.map (some M)] := h.at_ i he
set_option maxRecDepth 100000 in
set_option maxHeartbeats 1000000 in
theorem newG_any (w : World) :
    Calls Try.prog 8 #[] w fun e w' => ∃ G M, e = .returned (.pointer (some ⟨G, 0, none⟩)) ∧ Own w w' [gE G M, mapE M []] := by
  have hS0 := Own.start w
  have hS1 : Own w (w.alloc (.map #[] 0)) [mapE w.heap.size []] := hS0.newE (World.grownBy_alloc _ _ none) (mapE_good _ _) (MapAt.made w) (fun k hk => by cases hk; exact Nat.le_refl _)
  have hmk := fun W => run_makeMap (P := Try.prog) 70 W
  clear hS0
  go_enter Try.func8, Try.ntmps8
  go_wp2_with (refine wp_box (o := ⟨some 3, _, _, _, _, _⟩) rfl 72 (.tmp 2) rfl [.map (some w.heap.size)] rfl ?_)
  intro w1 hr hg hz
  clear hz
  have hS2 := hS1.new (by simpa using hr) hg
  clear hr hg hS1
  go_wp2
  go_ret
  rw [World.size_alloc] at hS2
  exact ⟨_, _, rfl, hS2⟩
set_option maxRecDepth 100000 in
set_option maxHeartbeats 1000000 in
theorem put_any (w0 w : World) (G M : Nat) (kv : KV) (L : List Ent) (d : Dg) (A : Option Addr) (c : Nat) (to : List Dg) (hS : Own w0 w (gE G M :: mapE M kv :: L)) (hd : d.length = 32) (hto : Rows32 w A c to) (hl : to.length ≤ 4096) :
    Calls Try.prog 9 #[.pointer (some ⟨G, 0, none⟩), dgv d, .slice A to.length c] w fun e w' => e = .returned (.int .i64 0) ∧ ∃ v, Own w0 w' (gE G M :: mapE M (putKV kv d v) :: rowsE w0.heap.size 30 v to :: L) := by
  have HTO := Lib.hid hto
  have HL := Lib.hid hl
  have HD := Lib.hid hd
  clear hto hl hd
  go_enter Try.func9, Try.ntmps9
  go_wp2_with (refine wp_box (o := ⟨some 4, _, _, _, _, _⟩) rfl 30 (.tmp 1) rfl (c8 d) rfl ?_)
  intro w1 hr hg hz
  clear hz
  have hS1 := hS.new hr hg
  have HTO1 := Lib.hid (HTO.out.keep hg)
  clear hr hg hS HTO
  go_wp2
  have hS2 := hS1.drew
  clear hS1
  refine wp_region_mixC (fun W => Own w0 W _) (fun i => i != 7) [(0, true), (1, true), (2, true), (3, true), (4, true), (5, true), (6, false), (7, false)] (by kernel_rfl) (by kernel_rfl) hS2 ?_
  iterate 3 (refine wpMix_step rfl (fun K hK => ?_); go_simp; (try go_bits); with_reducible refine hK _ ?_; clear hK K)
  refine wpMix_pureW _ rfl rfl (fun W hW => run_load_cell 70 (.tmp 11) rfl Try.underlying70 rfl ⟨G, 0, none⟩ rfl _ (((hW.row 1 rfl).cell 0).trans rfl)) ?_
  refine wpMix_pureW (.agg (c8 d).toArray) rfl rfl (fun W hW => run_load_op 30 (.tmp 4) rfl Try.underlying30 rfl ⟨w.heap.size, 0, none⟩ rfl _ (info_dg d HD.out) (row_all (hW.row 0 rfl))) ?_
  iterate 1 (refine wpMix_step rfl (fun K hK => ?_); go_simp; (try go_bits); with_reducible refine hK _ ?_; clear hK K)
  refine wpMix_loudW _ rfl rfl ?_
  go_wp2_with fail
  refine (clone_any A c to _ HTO1.out.drew HL.out).mono ?_
  rintro e w2 ⟨v, rfl, ho, hg⟩
  have hS3 := (hS2.madeR ho hg).lower 0 rfl
  simp only [List.set_cons_zero] at hS3
  clear hg ho hS2 HTO1
  go_wp2_with fail
  refine wpMix_next' (fun _ => hS3.tail) ?_
  refine wpMix_loudW _ rfl rfl ?_
  refine wp_mapput rfl MG (.tmp 12) (.tmp 13) (.tmp 15) rfl M d v rfl rfl rfl (putG (hS3.map 3 rfl) d HD.out v) ?_
  intro w3 hm hg
  have hS4 := hS3.mapSet 3 rfl hm hg
  simp only [List.set_cons_zero, List.set_cons_succ] at hS4
  clear hm hg hS3
  go_wp2_with fail
  refine wpMix_next' (fun h => by cases h) ?_
  unfold wpMix
  go_wp2
  go_ret
  refine ⟨rfl, v, ?_⟩
  have hp : ∀ (x y z u : Ent) (l : List Ent), (x :: y :: z :: u :: l).Perm (y :: z :: u :: x :: l) := fun x y z u l =>
    (List.Perm.swap y x _).trans (List.Perm.cons y ((List.Perm.swap z x _).trans (List.Perm.cons z (List.Perm.swap u x l))))
  exact (hS4.perm (hp _ _ _ _ _)).tail
end Go.Proofs.Ytnlnkojcbjaeeaa
