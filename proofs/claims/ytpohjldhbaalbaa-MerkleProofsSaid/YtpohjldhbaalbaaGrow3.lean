/- The contract of merkle.grow. -/
import Derived.Test.YtpohjldhbaalbaaUp3
import Derived.Test.YtpohjldhbaalbaaGrowLaw
namespace Go.Proofs.Ytpohjldhbaalbaa
set_option linter.unusedVariables false
set_option linter.unusedSimpArgs false
set_option linter.unusedSectionVars false
open Go.RowKit
set_option linter.unusedVariables false

section
variable {P : Program}
theorem results_rowTT {fn : Func} {p p2 u v : Tmp} {ty ty2 : TypeId} (h : fn.results = #[.cell p ty, .cell p2 ty2, .tmp u, .tmp v]) (tmps : Array Value) (w : World) (g g2 : Nat) (t t2 : TypeId) (cs cs2 : List Value) {d d2 : TypeDesc} (hp : tmps.getD p undef = .pointer (some ⟨g, 0, none⟩)) (hp2 : tmps.getD p2 undef = .pointer (some ⟨g2, 0, none⟩))
    (hg : Row w g t cs) (hg2 : Row w g2 t2 cs2) (hu : P.underlying ty = some d) (hd : (match d with | .struct _ | .array _ _ => true | _ => false) = true) (hi : (P.info? ty).map (·.size) = some cs.length) (hu2 : P.underlying ty2 = some d2) (hd2 : (match d2 with | .struct _ | .array _ _ => true | _ => false) = true) (hi2 : (P.info? ty2).map (·.size) = some cs2.length) {v2 v3 : Value} (hv : tmps.getD u undef = v2) (hw : tmps.getD v undef = v3) :
    (results fn tmps).run P w = .ok (.tuple #[.agg cs.toArray, .agg cs2.toArray, v2, v3]) w := by
  subst hv hw
  have hp' : tmps[p]?.getD undef = .pointer (some ⟨g, 0, none⟩) := by simpa using hp
  have hp2' : tmps[p2]?.getD undef = .pointer (some ⟨g2, 0, none⟩) := by simpa using hp2
  simp [results, h, hp', hp2', asAddr, run_loadVar_row w g t ty cs.toArray (0, 0) d hg hu hd (by simpa using hi), run_loadVar_row w g2 t2 ty2 cs2.toArray (0, 0) d2 hg2 hu2 hd2 (by simpa using hi2)]
end

set_option maxRecDepth 100000 in
set_option maxHeartbeats 8000000 in
theorem grow_whole (w : World) (old : List UInt8) (m n q c : Nat) (A : Option Addr) (HO : Hid (old.length = 32)) (hmn : m = n) :
    Calls Try.prog 52 #[.agg (c8 old).toArray, .int .i64 (m : Int), .int .i64 (n : Int), .bool true, .slice A q c] w fun e' w' => e' = .returned (.tuple #[.agg (c8 old).toArray, .agg (c8 old).toArray, .slice A q c, .bool true]) ∧ w.grownBy w' none := by
  subst hmn
  have Iold := Lib.hid (info_dg old HO.out)
  have Fold := Lib.hid (show 0 + (c8 old).length ≤ zd.length by rw [c8_length, HO.out]; decide)
  have Eold := Lib.hid (show (c8 old).length = zd.length by rw [c8_length, HO.out]; decide)
  go_enter Try.func52, Try.ntmps52
  go_wp2_with (refine wp_box (o := ⟨some 5, _, _, _, _, _⟩) rfl 27 (.tmp 0) rfl (c8 old) rfl ?_)
  intro w1 hr hg hz
  clear hz
  have hS1 := ((Own.start w)).new hr hg
  clear hr hg
  go_wp2_with (refine wp_alloc (o := ⟨some 10, _, _, _, _, _⟩) rfl 27 rfl _ alloc_d ?_)
  intro w2 hr hg hz
  clear hz
  have hS2 := hS1.new hr hg
  clear hr hg
  go_wp2_with (refine wp_alloc (o := ⟨some 11, _, _, _, _, _⟩) rfl 27 rfl _ alloc_d ?_)
  intro w3 hr hg hz
  clear hz
  have hS3 := hS2.new hr hg
  clear hr hg
  go_wp2_with (refine wp_alloc (o := ⟨some 14, _, _, _, _, _⟩) rfl 27 rfl _ alloc_d ?_)
  intro w4 hr hg hz
  clear hz
  have hS4 := hS3.new hr hg
  clear hr hg
  clear hS1 hS2 hS3
  go_wp2
  have hR := hS4.drew
  clear hS4
  refine wp_region_mixC (fun W => Own w W [rowE w.heap.size 27 (c8 old)]) (fun _ => true) [(0, true), (1, true), (2, true), (3, false), (4, false), (5, false), (6, false)] (by kernel_rfl) (by kernel_rfl) (hR.tail.tail.tail) ?_
  refine wpMix_pureW (.agg (c8 old).toArray) rfl rfl (fun W hW => run_load_op 27 (.tmp 5) rfl Try.underlying27 rfl ⟨w.heap.size, 0, none⟩ rfl _ Iold.out (row_all (hW.row 0 rfl))) ?_
  refine wpMix_pureW (.agg (c8 old).toArray) rfl rfl (fun W hW => run_load_op 27 (.tmp 5) rfl Try.underlying27 rfl ⟨w.heap.size, 0, none⟩ rfl _ Iold.out (row_all (hW.row 0 rfl))) ?_
  iterate 1 (refine wpMix_step rfl (fun K hK => ?_); go_simp; (try go_bits); with_reducible refine hK _ ?_; clear hK K)
  refine wpMix_loudW _ rfl rfl ?_
  go_wp2_with (refine wp_storeAgg rfl 27 (.tmp 10) (.tmp 28) rfl w1.heap.size 0 27 zd (c8 old) rfl rfl (hR.row 2 rfl) Iold.out Fold.out (one8 _) ?_)
  intro w5 hr hg hz
  clear hz
  rw [splice_all Eold.out] at hr
  have hR2 := hR.setRow 2 rfl hr hg
  clear hr hg hR
  go_wp2_with fail
  refine wpMix_next' (fun _ => hR2.tail.tail.tail) ?_
  refine wpMix_loudW _ rfl rfl ?_
  go_wp2_with (refine wp_storeAgg rfl 27 (.tmp 11) (.tmp 29) rfl w2.heap.size 0 27 zd (c8 old) rfl rfl (hR2.row 1 rfl) Iold.out Fold.out (one8 _) ?_)
  intro w6 hr hg hz
  clear hz
  rw [splice_all Eold.out] at hr
  have hR3 := hR2.setRow 1 rfl hr hg
  clear hr hg hR2
  go_wp2_with fail
  refine wpMix_next' (fun _ => hR3.tail.tail.tail) ?_
  refine wpMix_loudW _ rfl rfl ?_
  go_wp2_with fail
  refine wpMix_next' (fun _ => hR3.tail.tail.tail) ?_
  refine wpMix_loudW _ rfl rfl ?_
  go_wp2_with fail
  refine wpMix_next' (fun _ => hR3.tail.tail.tail) ?_
  unfold wpMix
  go_wp2
  exact bodyPost_ret (v := .tuple #[.agg (c8 old).toArray, .agg (c8 old).toArray, .slice A q c, .bool true]) (results_rowTT rfl _ _ w1.heap.size w2.heap.size _ _ _ _ rfl rfl (hR3.row 2 rfl) (hR3.row 1 rfl) Try.underlying27 rfl Iold.out Try.underlying27 rfl Iold.out rfl rfl) rfl ⟨rfl, hR3.grown⟩

set_option maxRecDepth 100000 in
set_option maxHeartbeats 8000000 in
theorem grow_none (w : World) (old : List UInt8) (m n c : Nat) (A : Option Addr) (HO : Hid (old.length = 32)) (hmn : m = n) :
    Calls Try.prog 52 #[.agg (c8 old).toArray, .int .i64 (m : Int), .int .i64 (n : Int), .bool false, .slice A 0 c] w fun e' w' => e' = .returned (.tuple #[.agg (c8 zeros32).toArray, .agg (c8 zeros32).toArray, .slice none 0 0, .bool false]) ∧ w.grownBy w' none := by
  subst hmn
  have Iold := Lib.hid (info_dg old HO.out)
  have Fold := Lib.hid (show 0 + (c8 old).length ≤ zd.length by rw [c8_length, HO.out]; decide)
  have Eold := Lib.hid (show (c8 old).length = zd.length by rw [c8_length, HO.out]; decide)
  have IZ := Lib.hid (info_dg zeros32 (by simp [zeros32]))
  have FZ := Lib.hid (show 0 + (c8 zeros32).length ≤ zd.length by decide)
  have EZ := Lib.hid (show (c8 zeros32).length = zd.length by decide)
  have Izd := Lib.hid (show (Try.prog.info? 27).map (·.size) = some zd.length from info_dg zeros32 (by simp [zeros32]))
  go_enter Try.func52, Try.ntmps52
  go_wp2_with (refine wp_box (o := ⟨some 5, _, _, _, _, _⟩) rfl 27 (.tmp 0) rfl (c8 old) rfl ?_)
  intro w1 hr hg hz
  clear hz
  have hS1 := ((Own.start w)).new hr hg
  clear hr hg
  go_wp2_with (refine wp_alloc (o := ⟨some 10, _, _, _, _, _⟩) rfl 27 rfl _ alloc_d ?_)
  intro w2 hr hg hz
  clear hz
  have hS2 := hS1.new hr hg
  clear hr hg
  go_wp2_with (refine wp_alloc (o := ⟨some 11, _, _, _, _, _⟩) rfl 27 rfl _ alloc_d ?_)
  intro w3 hr hg hz
  clear hz
  have hS3 := hS2.new hr hg
  clear hr hg
  go_wp2_with (refine wp_alloc (o := ⟨some 14, _, _, _, _, _⟩) rfl 27 rfl _ alloc_d ?_)
  intro w4 hr hg hz
  clear hz
  have hS4 := hS3.new hr hg
  clear hr hg
  clear hS1 hS2 hS3
  go_wp2
  have hR := hS4.drew
  clear hS4
  refine wp_region_mixC (fun W => Own w W [rowE w3.heap.size 27 zd]) (fun _ => true) [(0, true), (1, true), (2, false), (3, false), (4, false), (5, false)] (by kernel_rfl) (by kernel_rfl) (hR.sub (List.Sublist.cons_cons _ (List.nil_sublist _))) ?_
  refine wpMix_pureW (.agg zd.toArray) rfl rfl (fun W hW => run_load_op 27 (.tmp 14) rfl Try.underlying27 rfl ⟨w3.heap.size, 0, none⟩ rfl _ Izd.out (row_all (hW.row 0 rfl))) ?_
  refine wpMix_pureW (.agg zd.toArray) rfl rfl (fun W hW => run_load_op 27 (.tmp 14) rfl Try.underlying27 rfl ⟨w3.heap.size, 0, none⟩ rfl _ Izd.out (row_all (hW.row 0 rfl))) ?_
  refine wpMix_loudW _ rfl rfl ?_
  go_wp2_with (refine wp_storeAgg rfl 27 (.tmp 10) (.tmp 34) rfl w1.heap.size 0 27 zd (c8 zeros32) rfl rfl (hR.row 2 rfl) IZ.out FZ.out (one8 _) ?_)
  intro wf1 hr hg hz
  clear hz
  rw [splice_all EZ.out] at hr
  have hR2 := hR.setRow 2 rfl hr hg
  clear hr hg hR
  go_wp2_with fail
  refine wpMix_next' (fun _ => hR2.sub (List.Sublist.cons_cons _ (List.nil_sublist _))) ?_
  refine wpMix_loudW _ rfl rfl ?_
  go_wp2_with (refine wp_storeAgg rfl 27 (.tmp 11) (.tmp 35) rfl w2.heap.size 0 27 zd (c8 zeros32) rfl rfl (hR2.row 1 rfl) IZ.out FZ.out (one8 _) ?_)
  intro wf2 hr hg hz
  clear hz
  rw [splice_all EZ.out] at hr
  have hR3 := hR2.setRow 1 rfl hr hg
  clear hr hg hR2
  go_wp2_with fail
  refine wpMix_next' (fun _ => hR3.sub (List.Sublist.cons_cons _ (List.nil_sublist _))) ?_
  refine wpMix_loudW _ rfl rfl ?_
  go_wp2_with fail
  refine wpMix_next' (fun _ => hR3.sub (List.Sublist.cons_cons _ (List.nil_sublist _))) ?_
  refine wpMix_loudW _ rfl rfl ?_
  go_wp2_with fail
  refine wpMix_next' (fun _ => hR3.sub (List.Sublist.cons_cons _ (List.nil_sublist _))) ?_
  unfold wpMix
  go_wp2
  exact bodyPost_ret (v := .tuple #[.agg (c8 zeros32).toArray, .agg (c8 zeros32).toArray, .slice none 0 0, .bool false]) (results_rowTT rfl _ _ w1.heap.size w2.heap.size _ _ _ _ rfl rfl (hR3.row 2 rfl) (hR3.row 1 rfl) Try.underlying27 rfl IZ.out Try.underlying27 rfl IZ.out rfl rfl) rfl ⟨rfl, hR3.grown⟩

set_option maxRecDepth 100000 in
set_option maxHeartbeats 8000000 in
theorem grow_take (w : World) (old z : List UInt8) (m n q c b off : Nat) (B2 : Option Addr) (HO : Hid (old.length = 32)) (HZ : Hid (z.length = 32)) (hmn : m = n) (hq : (0 : Int) < (q : Int)) (hq' : 0 < q) (HAT : Hid (∀ j u, (c8 z)[j]? = some u → w.cell? ((⟨b, off, none⟩ : Addr).add j) = some u))
    (hfr : ∀ W, (Instr.slice 31 (.slice (some ⟨b, off, none⟩) q c) (some (.int .i64 1)) none none).run Try.prog W = .ok (.slice B2 (q - 1) (c - 1)) W) :
    Calls Try.prog 52 #[.agg (c8 old).toArray, .int .i64 (m : Int), .int .i64 (n : Int), .bool false, .slice (some ⟨b, off, none⟩) q c] w fun e' w' => e' = .returned (.tuple #[.agg (c8 z).toArray, .agg (c8 z).toArray, .slice B2 (q - 1) (c - 1), .bool true]) ∧ w.grownBy w' none := by
  subst hmn
  have Iz := Lib.hid (info_dg z HZ.out)
  have Fz := Lib.hid (show 0 + (c8 z).length ≤ zd.length by rw [c8_length, HZ.out]; decide)
  have Ez := Lib.hid (show (c8 z).length = zd.length by rw [c8_length, HZ.out]; decide)
  have k2 : decide ((q : Int) = 0) = false := by simp; omega
  have k3 : ¬ q = 0 := by omega
  have k4 : ((q : Int) == 0) = false := by simp; omega
  go_enter Try.func52, Try.ntmps52
  go_wp2_with (refine wp_box (o := ⟨some 5, _, _, _, _, _⟩) rfl 27 (.tmp 0) rfl (c8 old) rfl ?_)
  intro w1 hr hg hz
  clear hz
  have hS1 := ((Own.start w)).new hr hg
  clear hr hg
  go_wp2_with (refine wp_alloc (o := ⟨some 10, _, _, _, _, _⟩) rfl 27 rfl _ alloc_d ?_)
  intro w2 hr hg hz
  clear hz
  have hS2 := hS1.new hr hg
  clear hr hg
  go_wp2_with (refine wp_alloc (o := ⟨some 11, _, _, _, _, _⟩) rfl 27 rfl _ alloc_d ?_)
  intro w3 hr hg hz
  clear hz
  have hS3 := hS2.new hr hg
  clear hr hg
  go_wp2_with (refine wp_alloc (o := ⟨some 14, _, _, _, _, _⟩) rfl 27 rfl _ alloc_d ?_)
  intro w4 hr hg hz
  clear hz
  have hS4 := hS3.new hr hg
  clear hr hg
  clear hS1 hS2 hS3
  go_wp2
  have hR := hS4.drew
  clear hS4
  refine wp_region_mixC (fun W => Own w W []) (fun _ => true) [(0, true), (1, true), (2, true), (3, true), (4, true), (5, true), (6, true), (7, true), (8, false), (9, false), (10, false), (11, false)] (by kernel_rfl) (by kernel_rfl) (hR.sub (List.nil_sublist _)) ?_
  iterate 2 (refine wpMix_step rfl (fun K hK => ?_); go_simp; (try go_bits); with_reducible refine hK _ ?_; clear hK K)
  refine wpMix_pureW (.agg (c8 z).toArray) rfl rfl (fun W hW => run_load_op 27 (.tmp 37) rfl Try.underlying27 rfl ⟨b, off, none⟩ rfl _ Iz.out (fun j u hu => hW.cell (HAT.out j u hu))) ?_
  iterate 2 (refine wpMix_step rfl (fun K hK => ?_); go_simp; (try go_bits); with_reducible refine hK _ ?_; clear hK K)
  refine wpMix_pureW (.agg (c8 z).toArray) rfl rfl (fun W hW => run_load_op 27 (.tmp 40) rfl Try.underlying27 rfl ⟨b, off, none⟩ rfl _ Iz.out (fun j u hu => hW.cell (HAT.out j u hu))) ?_
  iterate 2 (refine wpMix_step rfl (fun K hK => ?_); go_simp; (try go_bits); with_reducible refine hK _ ?_; clear hK K)
  refine wpMix_loudW _ rfl rfl ?_
  go_wp2_with (refine wp_storeAgg rfl 27 (.tmp 10) (.tmp 38) rfl w1.heap.size 0 27 zd (c8 z) rfl rfl (hR.row 2 rfl) Iz.out Fz.out (one8 _) ?_)
  intro w5 hr hg hz
  clear hz
  rw [splice_all Ez.out] at hr
  have hR2 := hR.setRow 2 rfl hr hg
  clear hr hg hR
  go_wp2_with fail
  refine wpMix_next' (fun _ => hR2.sub (List.nil_sublist _)) ?_
  refine wpMix_loudW _ rfl rfl ?_
  go_wp2_with (refine wp_storeAgg rfl 27 (.tmp 11) (.tmp 41) rfl w2.heap.size 0 27 zd (c8 z) rfl rfl (hR2.row 1 rfl) Iz.out Fz.out (one8 _) ?_)
  intro w6 hr hg hz
  clear hz
  rw [splice_all Ez.out] at hr
  have hR3 := hR2.setRow 1 rfl hr hg
  clear hr hg hR2
  go_wp2_with fail
  refine wpMix_next' (fun _ => hR3.sub (List.nil_sublist _)) ?_
  refine wpMix_loudW _ rfl rfl ?_
  go_wp2_with fail
  refine wpMix_next' (fun _ => hR3.sub (List.nil_sublist _)) ?_
  refine wpMix_loudW _ rfl rfl ?_
  go_wp2_with fail
  refine wpMix_next' (fun _ => hR3.sub (List.nil_sublist _)) ?_
  unfold wpMix
  go_wp2
  exact bodyPost_ret (v := .tuple #[.agg (c8 z).toArray, .agg (c8 z).toArray, .slice B2 (q - 1) (c - 1), .bool true]) (results_rowTT rfl _ _ w1.heap.size w2.heap.size _ _ _ _ rfl rfl (hR3.row 2 rfl) (hR3.row 1 rfl) Try.underlying27 rfl Iz.out Try.underlying27 rfl Iz.out rfl rfl) rfl ⟨rfl, hR3.grown⟩

set_option maxRecDepth 100000 in
set_option maxHeartbeats 8000000 in
theorem grow_left_ok (w : World) (old x y : List UInt8) (m n h q c : Nat) (A : Option Addr) (whole : Bool) (HO : Hid (old.length = 32)) (HX : Hid (x.length = 32)) (HY : Hid (y.length = 32)) (hmn : (m : Int) < (n : Int)) (n2 : (2 : Int) ≤ (n : Int)) (n3 : (n : Int) ≤ 9223372036854775807) (m1 : (1 : Int) ≤ (m : Int)) (h0 : (0 : Int) ≤ (h : Int)) (hn : (h : Int) ≤ (n : Int)) (hm : (m : Int) ≤ (h : Int)) (hm' : m ≤ h)
    (b off k e : Nat) (z X Y : List UInt8) (B2 : Option Addr) (HZ : Hid (z.length = 32)) (HXX : Hid (X.length = 32)) (HYY : Hid (Y.length = 32)) (hk : (0 : Int) < (k : Int)) (hk' : 0 < k) (HAT : Hid (∀ j u, (c8 z)[j]? = some u → w.cell? ((⟨b, off, none⟩ : Addr).add j) = some u))
    (hfr : ∀ W, (Instr.slice 31 (.slice (some ⟨b, off, none⟩) k e) (some (.int .i64 1)) none none).run Try.prog W = .ok (.slice B2 (k - 1) (e - 1)) W)
    (cn : ∀ W, Calls Try.prog 43 #[.agg (c8 y).toArray, .agg (c8 z).toArray] W fun e w' => e = .returned (.agg (c8 Y).toArray) ∧ W.grownBy w' none)
    (cs : ∀ W, Calls Try.prog 46 #[.int .i64 (n : Int)] W fun e w' => e = .returned (.int .i64 (h : Int)) ∧ w' = W)
    (ci : ∀ W, w.grownBy W none → Calls Try.prog 52 #[.agg (c8 old).toArray, .int .i64 (m : Int), .int .i64 (h : Int), .bool whole, .slice A q c] W fun e2 w' => e2 = .returned (.tuple #[.agg (c8 x).toArray, .agg (c8 y).toArray, .slice (some ⟨b, off, none⟩) k e, .bool true]) ∧ W.grownBy w' none) :
    Calls Try.prog 52 #[.agg (c8 old).toArray, .int .i64 (m : Int), .int .i64 (n : Int), .bool whole, .slice A q c] w fun e' w' => e' = .returned (.tuple #[.agg (c8 x).toArray, .agg (c8 Y).toArray, .slice B2 (k - 1) (e - 1), .bool true]) ∧ w.grownBy w' none := by
  have Iold := Lib.hid (info_dg old HO.out)
  have Fold := Lib.hid (show 0 + (c8 old).length ≤ zd.length by rw [c8_length, HO.out]; decide)
  have Eold := Lib.hid (show (c8 old).length = zd.length by rw [c8_length, HO.out]; decide)
  have Ix := Lib.hid (info_dg x HX.out)
  have Fx := Lib.hid (show 0 + (c8 x).length ≤ zd.length by rw [c8_length, HX.out]; decide)
  have Ex := Lib.hid (show (c8 x).length = zd.length by rw [c8_length, HX.out]; decide)
  have Iy := Lib.hid (info_dg y HY.out)
  have Fy := Lib.hid (show 0 + (c8 y).length ≤ zd.length by rw [c8_length, HY.out]; decide)
  have Ey := Lib.hid (show (c8 y).length = zd.length by rw [c8_length, HY.out]; decide)
  have Iz := Lib.hid (info_dg z HZ.out)
  have Fz := Lib.hid (show 0 + (c8 z).length ≤ zd.length by rw [c8_length, HZ.out]; decide)
  have Ez := Lib.hid (show (c8 z).length = zd.length by rw [c8_length, HZ.out]; decide)
  have IY := Lib.hid (info_dg Y HYY.out)
  have FY := Lib.hid (show 0 + (c8 Y).length ≤ zd.length by rw [c8_length, HYY.out]; decide)
  have EY := Lib.hid (show (c8 Y).length = zd.length by rw [c8_length, HYY.out]; decide)
  have IX := Lib.hid (info_dg X HXX.out)
  have FX := Lib.hid (show 0 + (c8 X).length ≤ zd.length by rw [c8_length, HXX.out]; decide)
  have EX := Lib.hid (show (c8 X).length = zd.length by rw [c8_length, HXX.out]; decide)
  have k2 : decide ((k : Int) = 0) = false := by simp; omega
  have k3 : ¬ k = 0 := by omega
  have k4 : ((k : Int) == 0) = false := by simp; omega
  have t1 : decide ((m : Int) = (n : Int)) = false := by simp; omega
  have t2 : ((m : Int) == (n : Int)) = false := by simp; omega
  have t3 : ¬ m = n := by omega
  have t5 : (0 : Int) ≤ (m : Int) := by omega
  have t4 : decide ((m : Int) ≤ (h : Int)) = true := by simp; omega
  have t6 : decide (m ≤ h) = true := by simp; omega
  go_enter Try.func52, Try.ntmps52
  go_wp2_with (refine wp_box (o := ⟨some 5, _, _, _, _, _⟩) rfl 27 (.tmp 0) rfl (c8 old) rfl ?_)
  intro w1 hr hg hz
  clear hz
  have hS1 := ((Own.start w)).new hr hg
  clear hr hg
  go_wp2_with (refine wp_alloc (o := ⟨some 10, _, _, _, _, _⟩) rfl 27 rfl _ alloc_d ?_)
  intro w2 hr hg hz
  clear hz
  have hS2 := hS1.new hr hg
  clear hr hg
  go_wp2_with (refine wp_alloc (o := ⟨some 11, _, _, _, _, _⟩) rfl 27 rfl _ alloc_d ?_)
  intro w3 hr hg hz
  clear hz
  have hS3 := hS2.new hr hg
  clear hr hg
  go_wp2_with (refine wp_alloc (o := ⟨some 14, _, _, _, _, _⟩) rfl 27 rfl _ alloc_d ?_)
  intro w4 hr hg hz
  clear hz
  have hS4 := hS3.new hr hg
  clear hr hg
  clear hS1 hS2 hS3
  go_wp2_with fail
  refine (cs _).mono ?_
  rintro e' w5 ⟨rfl, rfl⟩
  go_wp2_with (first | (refine wp_load rfl 27 (.tmp 5) rfl Try.underlying27 rfl ⟨w.heap.size, 0, none⟩ rfl (c8 old) Iold.out (row_all (hS4.row 3 rfl)) ?_))
  refine (ci _ hS4.grown).mono ?_
  rintro e' w6 ⟨rfl, hg⟩
  have hS6 := hS4.call hg
  clear hg hS4 ci
  go_wp2_with (refine wp_alloc (o := ⟨some 16, _, _, _, _, _⟩) rfl 27 rfl _ alloc_d ?_)
  intro w7 hr hg hz
  clear hz
  have hS7 := hS6.new hr hg
  clear hr hg
  go_wp2_with (refine wp_alloc (o := ⟨some 17, _, _, _, _, _⟩) rfl 27 rfl _ alloc_d ?_)
  intro w8 hr hg hz
  clear hz
  have hS8 := hS7.new hr hg
  clear hr hg
  clear hS6 hS7
  go_wp2_with (refine wp_storeAgg rfl 27 (.tmp 16) (.tmp 56) rfl w6.heap.size 0 27 zd (c8 x) rfl rfl (hS8.row 1 rfl) Ix.out Fx.out (one8 _) ?_)
  intro w9 hr hg hz
  clear hz
  rw [splice_all Ex.out] at hr
  have hS9 := hS8.setRow 1 rfl hr hg
  clear hr hg hS8
  go_wp2_with (refine wp_storeAgg rfl 27 (.tmp 17) (.tmp 57) rfl w7.heap.size 0 27 zd (c8 y) rfl rfl (hS9.row 0 rfl) Iy.out Fy.out (one8 _) ?_)
  intro wA hr hg hz
  clear hz
  rw [splice_all Ey.out] at hr
  have hSA := hS9.setRow 0 rfl hr hg
  clear hr hg hS9
  go_wp2_with fail
  have hR := hSA.drew
  clear hSA
  refine wp_region_mixC (fun W => Own w W [rowE w7.heap.size 27 (c8 y), rowE w6.heap.size 27 (c8 x)]) (fun _ => true) [(0, true), (1, true), (2, true), (3, true), (4, true), (6, true), (7, true), (5, false), (8, false), (9, false), (10, false), (11, false)] (by kernel_rfl) (by kernel_rfl) (hR.sub (List.Sublist.cons_cons _ (List.Sublist.cons_cons _ (List.nil_sublist _)))) ?_
  refine wpMix_pureW (.agg (c8 x).toArray) rfl rfl (fun W hW => run_load_op 27 (.tmp 16) rfl Try.underlying27 rfl ⟨w6.heap.size, 0, none⟩ rfl _ Ix.out (row_all (hW.row 1 rfl))) ?_
  refine wpMix_pureW (.agg (c8 y).toArray) rfl rfl (fun W hW => run_load_op 27 (.tmp 17) rfl Try.underlying27 rfl ⟨w7.heap.size, 0, none⟩ rfl _ Iy.out (row_all (hW.row 0 rfl))) ?_
  iterate 2 (refine wpMix_step rfl (fun K hK => ?_); go_simp; (try go_bits); with_reducible refine hK _ ?_; clear hK K)
  refine wpMix_pureW (.agg (c8 z).toArray) rfl rfl (fun W hW => run_load_op 27 (.tmp 72) rfl Try.underlying27 rfl ⟨b, off, none⟩ rfl _ Iz.out (fun j u hu => hW.cell (HAT.out j u hu))) ?_
  iterate 2 (refine wpMix_step rfl (fun K hK => ?_); go_simp; (try go_bits); with_reducible refine hK _ ?_; clear hK K)
  refine wpMix_loudW _ rfl rfl ?_
  go_wp2_with fail
  refine (cn _).mono ?_
  rintro e wB ⟨rfl, hg⟩
  have hR1 := hR.call hg
  clear hg hR
  go_wp2_with fail
  refine wpMix_next' (fun _ => hR1.sub (List.Sublist.cons_cons _ (List.Sublist.cons_cons _ (List.nil_sublist _)))) ?_
  refine wpMix_loudW _ rfl rfl ?_
  go_wp2_with (refine wp_storeAgg rfl 27 (.tmp 10) (.tmp 69) rfl w1.heap.size 0 27 zd (c8 x) rfl rfl (hR1.row 4 rfl) Ix.out Fx.out (one8 _) ?_)
  intro wC hr hg hz
  clear hz
  rw [splice_all Ex.out] at hr
  have hR2 := hR1.setRow 4 rfl hr hg
  clear hr hg hR1
  go_wp2_with fail
  refine wpMix_next' (fun _ => hR2.sub (List.Sublist.cons_cons _ (List.Sublist.cons_cons _ (List.nil_sublist _)))) ?_
  refine wpMix_loudW _ rfl rfl ?_
  go_wp2_with (refine wp_storeAgg rfl 27 (.tmp 11) (.tmp 74) rfl w2.heap.size 0 27 zd (c8 Y) rfl rfl (hR2.row 3 rfl) IY.out FY.out (one8 _) ?_)
  intro wD hr hg hz
  clear hz
  rw [splice_all EY.out] at hr
  have hR3 := hR2.setRow 3 rfl hr hg
  clear hr hg hR2
  go_wp2_with fail
  refine wpMix_next' (fun _ => hR3.sub (List.Sublist.cons_cons _ (List.Sublist.cons_cons _ (List.nil_sublist _)))) ?_
  refine wpMix_loudW _ rfl rfl ?_
  go_wp2_with fail
  refine wpMix_next' (fun _ => hR3.sub (List.Sublist.cons_cons _ (List.Sublist.cons_cons _ (List.nil_sublist _)))) ?_
  refine wpMix_loudW _ rfl rfl ?_
  go_wp2_with fail
  refine wpMix_next' (fun _ => hR3.sub (List.Sublist.cons_cons _ (List.Sublist.cons_cons _ (List.nil_sublist _)))) ?_
  unfold wpMix
  go_wp2
  exact bodyPost_ret (v := .tuple #[.agg (c8 x).toArray, .agg (c8 Y).toArray, .slice B2 (k - 1) (e - 1), .bool true]) (results_rowTT rfl _ _ w1.heap.size w2.heap.size _ _ _ _ rfl rfl (hR3.row 4 rfl) (hR3.row 3 rfl) Try.underlying27 rfl Ix.out Try.underlying27 rfl IY.out rfl rfl) rfl ⟨rfl, hR3.grown⟩

set_option maxRecDepth 100000 in
set_option maxHeartbeats 8000000 in
theorem grow_left_empty (w : World) (old x y : List UInt8) (m n h q c : Nat) (A : Option Addr) (whole : Bool) (HO : Hid (old.length = 32)) (HX : Hid (x.length = 32)) (HY : Hid (y.length = 32)) (hmn : (m : Int) < (n : Int)) (n2 : (2 : Int) ≤ (n : Int)) (n3 : (n : Int) ≤ 9223372036854775807) (m1 : (1 : Int) ≤ (m : Int)) (h0 : (0 : Int) ≤ (h : Int)) (hn : (h : Int) ≤ (n : Int)) (hm : (m : Int) ≤ (h : Int)) (hm' : m ≤ h)
    (B : Option Addr) (e : Nat)
    (cs : ∀ W, Calls Try.prog 46 #[.int .i64 (n : Int)] W fun e w' => e = .returned (.int .i64 (h : Int)) ∧ w' = W)
    (ci : ∀ W, w.grownBy W none → Calls Try.prog 52 #[.agg (c8 old).toArray, .int .i64 (m : Int), .int .i64 (h : Int), .bool whole, .slice A q c] W fun e2 w' => e2 = .returned (.tuple #[.agg (c8 x).toArray, .agg (c8 y).toArray, .slice B 0 e, .bool true]) ∧ W.grownBy w' none) :
    Calls Try.prog 52 #[.agg (c8 old).toArray, .int .i64 (m : Int), .int .i64 (n : Int), .bool whole, .slice A q c] w fun e' w' => e' = .returned (.tuple #[.agg (c8 zeros32).toArray, .agg (c8 zeros32).toArray, .slice none 0 0, .bool false]) ∧ w.grownBy w' none := by
  have Iold := Lib.hid (info_dg old HO.out)
  have Fold := Lib.hid (show 0 + (c8 old).length ≤ zd.length by rw [c8_length, HO.out]; decide)
  have Eold := Lib.hid (show (c8 old).length = zd.length by rw [c8_length, HO.out]; decide)
  have Ix := Lib.hid (info_dg x HX.out)
  have Fx := Lib.hid (show 0 + (c8 x).length ≤ zd.length by rw [c8_length, HX.out]; decide)
  have Ex := Lib.hid (show (c8 x).length = zd.length by rw [c8_length, HX.out]; decide)
  have Iy := Lib.hid (info_dg y HY.out)
  have Fy := Lib.hid (show 0 + (c8 y).length ≤ zd.length by rw [c8_length, HY.out]; decide)
  have Ey := Lib.hid (show (c8 y).length = zd.length by rw [c8_length, HY.out]; decide)
  have IZ := Lib.hid (info_dg zeros32 (by simp [zeros32]))
  have FZ := Lib.hid (show 0 + (c8 zeros32).length ≤ zd.length by decide)
  have EZ := Lib.hid (show (c8 zeros32).length = zd.length by decide)
  have Izd := Lib.hid (show (Try.prog.info? 27).map (·.size) = some zd.length from info_dg zeros32 (by simp [zeros32]))
  have t1 : decide ((m : Int) = (n : Int)) = false := by simp; omega
  have t2 : ((m : Int) == (n : Int)) = false := by simp; omega
  have t3 : ¬ m = n := by omega
  have t5 : (0 : Int) ≤ (m : Int) := by omega
  have t4 : decide ((m : Int) ≤ (h : Int)) = true := by simp; omega
  have t6 : decide (m ≤ h) = true := by simp; omega
  go_enter Try.func52, Try.ntmps52
  go_wp2_with (refine wp_box (o := ⟨some 5, _, _, _, _, _⟩) rfl 27 (.tmp 0) rfl (c8 old) rfl ?_)
  intro w1 hr hg hz
  clear hz
  have hS1 := ((Own.start w)).new hr hg
  clear hr hg
  go_wp2_with (refine wp_alloc (o := ⟨some 10, _, _, _, _, _⟩) rfl 27 rfl _ alloc_d ?_)
  intro w2 hr hg hz
  clear hz
  have hS2 := hS1.new hr hg
  clear hr hg
  go_wp2_with (refine wp_alloc (o := ⟨some 11, _, _, _, _, _⟩) rfl 27 rfl _ alloc_d ?_)
  intro w3 hr hg hz
  clear hz
  have hS3 := hS2.new hr hg
  clear hr hg
  go_wp2_with (refine wp_alloc (o := ⟨some 14, _, _, _, _, _⟩) rfl 27 rfl _ alloc_d ?_)
  intro w4 hr hg hz
  clear hz
  have hS4 := hS3.new hr hg
  clear hr hg
  clear hS1 hS2 hS3
  go_wp2_with fail
  refine (cs _).mono ?_
  rintro e' w5 ⟨rfl, rfl⟩
  go_wp2_with (first | (refine wp_load rfl 27 (.tmp 5) rfl Try.underlying27 rfl ⟨w.heap.size, 0, none⟩ rfl (c8 old) Iold.out (row_all (hS4.row 3 rfl)) ?_))
  refine (ci _ hS4.grown).mono ?_
  rintro e' w6 ⟨rfl, hg⟩
  have hS6 := hS4.call hg
  clear hg hS4 ci
  go_wp2_with (refine wp_alloc (o := ⟨some 16, _, _, _, _, _⟩) rfl 27 rfl _ alloc_d ?_)
  intro w7 hr hg hz
  clear hz
  have hS7 := hS6.new hr hg
  clear hr hg
  go_wp2_with (refine wp_alloc (o := ⟨some 17, _, _, _, _, _⟩) rfl 27 rfl _ alloc_d ?_)
  intro w8 hr hg hz
  clear hz
  have hS8 := hS7.new hr hg
  clear hr hg
  clear hS6 hS7
  go_wp2_with (refine wp_storeAgg rfl 27 (.tmp 16) (.tmp 56) rfl w6.heap.size 0 27 zd (c8 x) rfl rfl (hS8.row 1 rfl) Ix.out Fx.out (one8 _) ?_)
  intro w9 hr hg hz
  clear hz
  rw [splice_all Ex.out] at hr
  have hS9 := hS8.setRow 1 rfl hr hg
  clear hr hg hS8
  go_wp2_with (refine wp_storeAgg rfl 27 (.tmp 17) (.tmp 57) rfl w7.heap.size 0 27 zd (c8 y) rfl rfl (hS9.row 0 rfl) Iy.out Fy.out (one8 _) ?_)
  intro wA hr hg hz
  clear hz
  rw [splice_all Ey.out] at hr
  have hSA := hS9.setRow 0 rfl hr hg
  clear hr hg hS9
  go_wp2_with fail
  have hR := hSA.drew
  clear hSA
  refine wp_region_mixC (fun W => Own w W [rowE w3.heap.size 27 zd]) (fun _ => true) [(0, true), (1, true), (2, false), (3, false), (4, false), (5, false)] (by kernel_rfl) (by kernel_rfl) (hR.tail.tail.sub (List.Sublist.cons_cons _ (List.nil_sublist _))) ?_
  refine wpMix_pureW (.agg zd.toArray) rfl rfl (fun W hW => run_load_op 27 (.tmp 14) rfl Try.underlying27 rfl ⟨w3.heap.size, 0, none⟩ rfl _ Izd.out (row_all (hW.row 0 rfl))) ?_
  refine wpMix_pureW (.agg zd.toArray) rfl rfl (fun W hW => run_load_op 27 (.tmp 14) rfl Try.underlying27 rfl ⟨w3.heap.size, 0, none⟩ rfl _ Izd.out (row_all (hW.row 0 rfl))) ?_
  refine wpMix_loudW _ rfl rfl ?_
  go_wp2_with (refine wp_storeAgg rfl 27 (.tmp 10) (.tmp 67) rfl w1.heap.size 0 27 zd (c8 zeros32) rfl rfl (hR.row 4 rfl) IZ.out FZ.out (one8 _) ?_)
  intro wf1 hr hg hz
  clear hz
  rw [splice_all EZ.out] at hr
  have hR2 := hR.setRow 4 rfl hr hg
  clear hr hg hR
  go_wp2_with fail
  refine wpMix_next' (fun _ => hR2.tail.tail.sub (List.Sublist.cons_cons _ (List.nil_sublist _))) ?_
  refine wpMix_loudW _ rfl rfl ?_
  go_wp2_with (refine wp_storeAgg rfl 27 (.tmp 11) (.tmp 68) rfl w2.heap.size 0 27 zd (c8 zeros32) rfl rfl (hR2.row 3 rfl) IZ.out FZ.out (one8 _) ?_)
  intro wf2 hr hg hz
  clear hz
  rw [splice_all EZ.out] at hr
  have hR3 := hR2.setRow 3 rfl hr hg
  clear hr hg hR2
  go_wp2_with fail
  refine wpMix_next' (fun _ => hR3.tail.tail.sub (List.Sublist.cons_cons _ (List.nil_sublist _))) ?_
  refine wpMix_loudW _ rfl rfl ?_
  go_wp2_with fail
  refine wpMix_next' (fun _ => hR3.tail.tail.sub (List.Sublist.cons_cons _ (List.nil_sublist _))) ?_
  refine wpMix_loudW _ rfl rfl ?_
  go_wp2_with fail
  refine wpMix_next' (fun _ => hR3.tail.tail.sub (List.Sublist.cons_cons _ (List.nil_sublist _))) ?_
  unfold wpMix
  go_wp2
  exact bodyPost_ret (v := .tuple #[.agg (c8 zeros32).toArray, .agg (c8 zeros32).toArray, .slice none 0 0, .bool false]) (results_rowTT rfl _ _ w1.heap.size w2.heap.size _ _ _ _ rfl rfl (hR3.row 4 rfl) (hR3.row 3 rfl) Try.underlying27 rfl IZ.out Try.underlying27 rfl IZ.out rfl rfl) rfl ⟨rfl, hR3.grown⟩

set_option maxRecDepth 100000 in
set_option maxHeartbeats 8000000 in
theorem grow_left_no (w : World) (old x y : List UInt8) (m n h q c : Nat) (A : Option Addr) (whole : Bool) (HO : Hid (old.length = 32)) (HX : Hid (x.length = 32)) (HY : Hid (y.length = 32)) (hmn : (m : Int) < (n : Int)) (n2 : (2 : Int) ≤ (n : Int)) (n3 : (n : Int) ≤ 9223372036854775807) (m1 : (1 : Int) ≤ (m : Int)) (h0 : (0 : Int) ≤ (h : Int)) (hn : (h : Int) ≤ (n : Int)) (hm : (m : Int) ≤ (h : Int)) (hm' : m ≤ h)
    
    (cs : ∀ W, Calls Try.prog 46 #[.int .i64 (n : Int)] W fun e w' => e = .returned (.int .i64 (h : Int)) ∧ w' = W)
    (ci : ∀ W, w.grownBy W none → Calls Try.prog 52 #[.agg (c8 old).toArray, .int .i64 (m : Int), .int .i64 (h : Int), .bool whole, .slice A q c] W fun e2 w' => e2 = .returned (.tuple #[.agg (c8 x).toArray, .agg (c8 y).toArray, .slice none 0 0, .bool false]) ∧ W.grownBy w' none) :
    Calls Try.prog 52 #[.agg (c8 old).toArray, .int .i64 (m : Int), .int .i64 (n : Int), .bool whole, .slice A q c] w fun e' w' => e' = .returned (.tuple #[.agg (c8 zeros32).toArray, .agg (c8 zeros32).toArray, .slice none 0 0, .bool false]) ∧ w.grownBy w' none := by
  have Iold := Lib.hid (info_dg old HO.out)
  have Fold := Lib.hid (show 0 + (c8 old).length ≤ zd.length by rw [c8_length, HO.out]; decide)
  have Eold := Lib.hid (show (c8 old).length = zd.length by rw [c8_length, HO.out]; decide)
  have Ix := Lib.hid (info_dg x HX.out)
  have Fx := Lib.hid (show 0 + (c8 x).length ≤ zd.length by rw [c8_length, HX.out]; decide)
  have Ex := Lib.hid (show (c8 x).length = zd.length by rw [c8_length, HX.out]; decide)
  have Iy := Lib.hid (info_dg y HY.out)
  have Fy := Lib.hid (show 0 + (c8 y).length ≤ zd.length by rw [c8_length, HY.out]; decide)
  have Ey := Lib.hid (show (c8 y).length = zd.length by rw [c8_length, HY.out]; decide)
  have IZ := Lib.hid (info_dg zeros32 (by simp [zeros32]))
  have FZ := Lib.hid (show 0 + (c8 zeros32).length ≤ zd.length by decide)
  have EZ := Lib.hid (show (c8 zeros32).length = zd.length by decide)
  have Izd := Lib.hid (show (Try.prog.info? 27).map (·.size) = some zd.length from info_dg zeros32 (by simp [zeros32]))
  have t1 : decide ((m : Int) = (n : Int)) = false := by simp; omega
  have t2 : ((m : Int) == (n : Int)) = false := by simp; omega
  have t3 : ¬ m = n := by omega
  have t5 : (0 : Int) ≤ (m : Int) := by omega
  have t4 : decide ((m : Int) ≤ (h : Int)) = true := by simp; omega
  have t6 : decide (m ≤ h) = true := by simp; omega
  go_enter Try.func52, Try.ntmps52
  go_wp2_with (refine wp_box (o := ⟨some 5, _, _, _, _, _⟩) rfl 27 (.tmp 0) rfl (c8 old) rfl ?_)
  intro w1 hr hg hz
  clear hz
  have hS1 := ((Own.start w)).new hr hg
  clear hr hg
  go_wp2_with (refine wp_alloc (o := ⟨some 10, _, _, _, _, _⟩) rfl 27 rfl _ alloc_d ?_)
  intro w2 hr hg hz
  clear hz
  have hS2 := hS1.new hr hg
  clear hr hg
  go_wp2_with (refine wp_alloc (o := ⟨some 11, _, _, _, _, _⟩) rfl 27 rfl _ alloc_d ?_)
  intro w3 hr hg hz
  clear hz
  have hS3 := hS2.new hr hg
  clear hr hg
  go_wp2_with (refine wp_alloc (o := ⟨some 14, _, _, _, _, _⟩) rfl 27 rfl _ alloc_d ?_)
  intro w4 hr hg hz
  clear hz
  have hS4 := hS3.new hr hg
  clear hr hg
  clear hS1 hS2 hS3
  go_wp2_with fail
  refine (cs _).mono ?_
  rintro e' w5 ⟨rfl, rfl⟩
  go_wp2_with (first | (refine wp_load rfl 27 (.tmp 5) rfl Try.underlying27 rfl ⟨w.heap.size, 0, none⟩ rfl (c8 old) Iold.out (row_all (hS4.row 3 rfl)) ?_))
  refine (ci _ hS4.grown).mono ?_
  rintro e' w6 ⟨rfl, hg⟩
  have hS6 := hS4.call hg
  clear hg hS4 ci
  go_wp2_with (refine wp_alloc (o := ⟨some 16, _, _, _, _, _⟩) rfl 27 rfl _ alloc_d ?_)
  intro w7 hr hg hz
  clear hz
  have hS7 := hS6.new hr hg
  clear hr hg
  go_wp2_with (refine wp_alloc (o := ⟨some 17, _, _, _, _, _⟩) rfl 27 rfl _ alloc_d ?_)
  intro w8 hr hg hz
  clear hz
  have hS8 := hS7.new hr hg
  clear hr hg
  clear hS6 hS7
  go_wp2_with (refine wp_storeAgg rfl 27 (.tmp 16) (.tmp 56) rfl w6.heap.size 0 27 zd (c8 x) rfl rfl (hS8.row 1 rfl) Ix.out Fx.out (one8 _) ?_)
  intro w9 hr hg hz
  clear hz
  rw [splice_all Ex.out] at hr
  have hS9 := hS8.setRow 1 rfl hr hg
  clear hr hg hS8
  go_wp2_with (refine wp_storeAgg rfl 27 (.tmp 17) (.tmp 57) rfl w7.heap.size 0 27 zd (c8 y) rfl rfl (hS9.row 0 rfl) Iy.out Fy.out (one8 _) ?_)
  intro wA hr hg hz
  clear hz
  rw [splice_all Ey.out] at hr
  have hSA := hS9.setRow 0 rfl hr hg
  clear hr hg hS9
  go_wp2_with fail
  have hR := hSA.drew
  clear hSA
  refine wp_region_mixC (fun W => Own w W [rowE w3.heap.size 27 zd]) (fun _ => true) [(0, true), (1, true), (2, false), (3, false), (4, false), (5, false)] (by kernel_rfl) (by kernel_rfl) (hR.tail.tail.sub (List.Sublist.cons_cons _ (List.nil_sublist _))) ?_
  refine wpMix_pureW (.agg zd.toArray) rfl rfl (fun W hW => run_load_op 27 (.tmp 14) rfl Try.underlying27 rfl ⟨w3.heap.size, 0, none⟩ rfl _ Izd.out (row_all (hW.row 0 rfl))) ?_
  refine wpMix_pureW (.agg zd.toArray) rfl rfl (fun W hW => run_load_op 27 (.tmp 14) rfl Try.underlying27 rfl ⟨w3.heap.size, 0, none⟩ rfl _ Izd.out (row_all (hW.row 0 rfl))) ?_
  refine wpMix_loudW _ rfl rfl ?_
  go_wp2_with (refine wp_storeAgg rfl 27 (.tmp 10) (.tmp 67) rfl w1.heap.size 0 27 zd (c8 zeros32) rfl rfl (hR.row 4 rfl) IZ.out FZ.out (one8 _) ?_)
  intro wf1 hr hg hz
  clear hz
  rw [splice_all EZ.out] at hr
  have hR2 := hR.setRow 4 rfl hr hg
  clear hr hg hR
  go_wp2_with fail
  refine wpMix_next' (fun _ => hR2.tail.tail.sub (List.Sublist.cons_cons _ (List.nil_sublist _))) ?_
  refine wpMix_loudW _ rfl rfl ?_
  go_wp2_with (refine wp_storeAgg rfl 27 (.tmp 11) (.tmp 68) rfl w2.heap.size 0 27 zd (c8 zeros32) rfl rfl (hR2.row 3 rfl) IZ.out FZ.out (one8 _) ?_)
  intro wf2 hr hg hz
  clear hz
  rw [splice_all EZ.out] at hr
  have hR3 := hR2.setRow 3 rfl hr hg
  clear hr hg hR2
  go_wp2_with fail
  refine wpMix_next' (fun _ => hR3.tail.tail.sub (List.Sublist.cons_cons _ (List.nil_sublist _))) ?_
  refine wpMix_loudW _ rfl rfl ?_
  go_wp2_with fail
  refine wpMix_next' (fun _ => hR3.tail.tail.sub (List.Sublist.cons_cons _ (List.nil_sublist _))) ?_
  refine wpMix_loudW _ rfl rfl ?_
  go_wp2_with fail
  refine wpMix_next' (fun _ => hR3.tail.tail.sub (List.Sublist.cons_cons _ (List.nil_sublist _))) ?_
  unfold wpMix
  go_wp2
  exact bodyPost_ret (v := .tuple #[.agg (c8 zeros32).toArray, .agg (c8 zeros32).toArray, .slice none 0 0, .bool false]) (results_rowTT rfl _ _ w1.heap.size w2.heap.size _ _ _ _ rfl rfl (hR3.row 4 rfl) (hR3.row 3 rfl) Try.underlying27 rfl IZ.out Try.underlying27 rfl IZ.out rfl rfl) rfl ⟨rfl, hR3.grown⟩

set_option maxRecDepth 100000 in
set_option maxHeartbeats 8000000 in
theorem grow_right_ok (w : World) (old x y : List UInt8) (m n h q c : Nat) (A : Option Addr) (whole : Bool) (HO : Hid (old.length = 32)) (HX : Hid (x.length = 32)) (HY : Hid (y.length = 32)) (hmn : (m : Int) < (n : Int)) (n2 : (2 : Int) ≤ (n : Int)) (n3 : (n : Int) ≤ 9223372036854775807) (m1 : (1 : Int) ≤ (m : Int)) (h0 : (0 : Int) ≤ (h : Int)) (hn : (h : Int) ≤ (n : Int)) (hm : (h : Int) < (m : Int)) (hm' : ¬ m ≤ h)
    (b off k e : Nat) (z X Y : List UInt8) (B2 : Option Addr) (HZ : Hid (z.length = 32)) (HXX : Hid (X.length = 32)) (HYY : Hid (Y.length = 32)) (hk : (0 : Int) < (k : Int)) (hk' : 0 < k) (HAT : Hid (∀ j u, (c8 z)[j]? = some u → w.cell? ((⟨b, off, none⟩ : Addr).add j) = some u))
    (hfr : ∀ W, (Instr.slice 31 (.slice (some ⟨b, off, none⟩) k e) (some (.int .i64 1)) none none).run Try.prog W = .ok (.slice B2 (k - 1) (e - 1)) W)
    (cn0 : ∀ W, Calls Try.prog 43 #[.agg (c8 z).toArray, .agg (c8 x).toArray] W fun e w' => e = .returned (.agg (c8 X).toArray) ∧ W.grownBy w' none) (cn : ∀ W, Calls Try.prog 43 #[.agg (c8 z).toArray, .agg (c8 y).toArray] W fun e w' => e = .returned (.agg (c8 Y).toArray) ∧ W.grownBy w' none)
    (cs : ∀ W, Calls Try.prog 46 #[.int .i64 (n : Int)] W fun e w' => e = .returned (.int .i64 (h : Int)) ∧ w' = W)
    (ci : ∀ W, w.grownBy W none → Calls Try.prog 52 #[.agg (c8 old).toArray, .int .i64 ((m : Int) - (h : Int)), .int .i64 ((n : Int) - (h : Int)), .bool false, .slice A q c] W fun e2 w' => e2 = .returned (.tuple #[.agg (c8 x).toArray, .agg (c8 y).toArray, .slice (some ⟨b, off, none⟩) k e, .bool true]) ∧ W.grownBy w' none) :
    Calls Try.prog 52 #[.agg (c8 old).toArray, .int .i64 (m : Int), .int .i64 (n : Int), .bool whole, .slice A q c] w fun e' w' => e' = .returned (.tuple #[.agg (c8 X).toArray, .agg (c8 Y).toArray, .slice B2 (k - 1) (e - 1), .bool true]) ∧ w.grownBy w' none := by
  have Iold := Lib.hid (info_dg old HO.out)
  have Fold := Lib.hid (show 0 + (c8 old).length ≤ zd.length by rw [c8_length, HO.out]; decide)
  have Eold := Lib.hid (show (c8 old).length = zd.length by rw [c8_length, HO.out]; decide)
  have Ix := Lib.hid (info_dg x HX.out)
  have Fx := Lib.hid (show 0 + (c8 x).length ≤ zd.length by rw [c8_length, HX.out]; decide)
  have Ex := Lib.hid (show (c8 x).length = zd.length by rw [c8_length, HX.out]; decide)
  have Iy := Lib.hid (info_dg y HY.out)
  have Fy := Lib.hid (show 0 + (c8 y).length ≤ zd.length by rw [c8_length, HY.out]; decide)
  have Ey := Lib.hid (show (c8 y).length = zd.length by rw [c8_length, HY.out]; decide)
  have Iz := Lib.hid (info_dg z HZ.out)
  have Fz := Lib.hid (show 0 + (c8 z).length ≤ zd.length by rw [c8_length, HZ.out]; decide)
  have Ez := Lib.hid (show (c8 z).length = zd.length by rw [c8_length, HZ.out]; decide)
  have IY := Lib.hid (info_dg Y HYY.out)
  have FY := Lib.hid (show 0 + (c8 Y).length ≤ zd.length by rw [c8_length, HYY.out]; decide)
  have EY := Lib.hid (show (c8 Y).length = zd.length by rw [c8_length, HYY.out]; decide)
  have IX := Lib.hid (info_dg X HXX.out)
  have FX := Lib.hid (show 0 + (c8 X).length ≤ zd.length by rw [c8_length, HXX.out]; decide)
  have EX := Lib.hid (show (c8 X).length = zd.length by rw [c8_length, HXX.out]; decide)
  have k2 : decide ((k : Int) = 0) = false := by simp; omega
  have k3 : ¬ k = 0 := by omega
  have k4 : ((k : Int) == 0) = false := by simp; omega
  have t1 : decide ((m : Int) = (n : Int)) = false := by simp; omega
  have t2 : ((m : Int) == (n : Int)) = false := by simp; omega
  have t3 : ¬ m = n := by omega
  have t5 : (0 : Int) ≤ (m : Int) := by omega
  have t4 : decide ((m : Int) ≤ (h : Int)) = false := by simp; omega
  have t6 : decide (m ≤ h) = false := by simp; omega
  go_enter Try.func52, Try.ntmps52
  go_wp2_with (refine wp_box (o := ⟨some 5, _, _, _, _, _⟩) rfl 27 (.tmp 0) rfl (c8 old) rfl ?_)
  intro w1 hr hg hz
  clear hz
  have hS1 := ((Own.start w)).new hr hg
  clear hr hg
  go_wp2_with (refine wp_alloc (o := ⟨some 10, _, _, _, _, _⟩) rfl 27 rfl _ alloc_d ?_)
  intro w2 hr hg hz
  clear hz
  have hS2 := hS1.new hr hg
  clear hr hg
  go_wp2_with (refine wp_alloc (o := ⟨some 11, _, _, _, _, _⟩) rfl 27 rfl _ alloc_d ?_)
  intro w3 hr hg hz
  clear hz
  have hS3 := hS2.new hr hg
  clear hr hg
  go_wp2_with (refine wp_alloc (o := ⟨some 14, _, _, _, _, _⟩) rfl 27 rfl _ alloc_d ?_)
  intro w4 hr hg hz
  clear hz
  have hS4 := hS3.new hr hg
  clear hr hg
  clear hS1 hS2 hS3
  go_wp2_with fail
  refine (cs _).mono ?_
  rintro e' w5 ⟨rfl, rfl⟩
  go_wp2_with (first | (refine wp_load rfl 27 (.tmp 5) rfl Try.underlying27 rfl ⟨w.heap.size, 0, none⟩ rfl (c8 old) Iold.out (row_all (hS4.row 3 rfl)) ?_))
  refine (ci _ hS4.grown).mono ?_
  rintro e' w6 ⟨rfl, hg⟩
  have hS6 := hS4.call hg
  clear hg hS4 ci
  go_wp2_with (refine wp_alloc (o := ⟨some 20, _, _, _, _, _⟩) rfl 27 rfl _ alloc_d ?_)
  intro w7 hr hg hz
  clear hz
  have hS7 := hS6.new hr hg
  clear hr hg
  go_wp2_with (refine wp_alloc (o := ⟨some 21, _, _, _, _, _⟩) rfl 27 rfl _ alloc_d ?_)
  intro w8 hr hg hz
  clear hz
  have hS8 := hS7.new hr hg
  clear hr hg
  clear hS6 hS7
  go_wp2_with (refine wp_storeAgg rfl 27 (.tmp 20) (.tmp 87) rfl w6.heap.size 0 27 zd (c8 x) rfl rfl (hS8.row 1 rfl) Ix.out Fx.out (one8 _) ?_)
  intro w9 hr hg hz
  clear hz
  rw [splice_all Ex.out] at hr
  have hS9 := hS8.setRow 1 rfl hr hg
  clear hr hg hS8
  go_wp2_with (refine wp_storeAgg rfl 27 (.tmp 21) (.tmp 88) rfl w7.heap.size 0 27 zd (c8 y) rfl rfl (hS9.row 0 rfl) Iy.out Fy.out (one8 _) ?_)
  intro wA hr hg hz
  clear hz
  rw [splice_all Ey.out] at hr
  have hSA := hS9.setRow 0 rfl hr hg
  clear hr hg hS9
  go_wp2_with fail
  have hR := hSA.drew
  clear hSA
  refine wp_region_mixC (fun W => Own w W [rowE w7.heap.size 27 (c8 y), rowE w6.heap.size 27 (c8 x)]) (fun _ => true) [(0, true), (1, true), (2, true), (3, true), (5, true), (6, true), (7, true), (8, true), (10, true), (11, true), (4, false), (9, false), (12, false), (13, false), (14, false), (15, false)] (by kernel_rfl) (by kernel_rfl) (hR.sub (List.Sublist.cons_cons _ (List.Sublist.cons_cons _ (List.nil_sublist _)))) ?_
  iterate 2 (refine wpMix_step rfl (fun K hK => ?_); go_simp; (try go_bits); with_reducible refine hK _ ?_; clear hK K)
  refine wpMix_pureW (.agg (c8 z).toArray) rfl rfl (fun W hW => run_load_op 27 (.tmp 101) rfl Try.underlying27 rfl ⟨b, off, none⟩ rfl _ Iz.out (fun j u hu => hW.cell (HAT.out j u hu))) ?_
  refine wpMix_pureW (.agg (c8 x).toArray) rfl rfl (fun W hW => run_load_op 27 (.tmp 20) rfl Try.underlying27 rfl ⟨w6.heap.size, 0, none⟩ rfl _ Ix.out (row_all (hW.row 1 rfl))) ?_
  iterate 2 (refine wpMix_step rfl (fun K hK => ?_); go_simp; (try go_bits); with_reducible refine hK _ ?_; clear hK K)
  refine wpMix_pureW (.agg (c8 z).toArray) rfl rfl (fun W hW => run_load_op 27 (.tmp 106) rfl Try.underlying27 rfl ⟨b, off, none⟩ rfl _ Iz.out (fun j u hu => hW.cell (HAT.out j u hu))) ?_
  refine wpMix_pureW (.agg (c8 y).toArray) rfl rfl (fun W hW => run_load_op 27 (.tmp 21) rfl Try.underlying27 rfl ⟨w7.heap.size, 0, none⟩ rfl _ Iy.out (row_all (hW.row 0 rfl))) ?_
  iterate 2 (refine wpMix_step rfl (fun K hK => ?_); go_simp; (try go_bits); with_reducible refine hK _ ?_; clear hK K)
  refine wpMix_loudW _ rfl rfl ?_
  go_wp2_with fail
  refine (cn0 _).mono ?_
  rintro e wB ⟨rfl, hg⟩
  have hR0 := hR.call hg
  clear hg hR
  go_wp2_with fail
  refine wpMix_next' (fun _ => hR0.sub (List.Sublist.cons_cons _ (List.Sublist.cons_cons _ (List.nil_sublist _)))) ?_
  refine wpMix_loudW _ rfl rfl ?_
  go_wp2_with fail
  refine (cn _).mono ?_
  rintro e wB2 ⟨rfl, hg⟩
  have hR1 := hR0.call hg
  clear hg hR0
  go_wp2_with fail
  refine wpMix_next' (fun _ => hR1.sub (List.Sublist.cons_cons _ (List.Sublist.cons_cons _ (List.nil_sublist _)))) ?_
  refine wpMix_loudW _ rfl rfl ?_
  go_wp2_with (refine wp_storeAgg rfl 27 (.tmp 10) (.tmp 104) rfl w1.heap.size 0 27 zd (c8 X) rfl rfl (hR1.row 4 rfl) IX.out FX.out (one8 _) ?_)
  intro wC hr hg hz
  clear hz
  rw [splice_all EX.out] at hr
  have hR2 := hR1.setRow 4 rfl hr hg
  clear hr hg hR1
  go_wp2_with fail
  refine wpMix_next' (fun _ => hR2.sub (List.Sublist.cons_cons _ (List.Sublist.cons_cons _ (List.nil_sublist _)))) ?_
  refine wpMix_loudW _ rfl rfl ?_
  go_wp2_with (refine wp_storeAgg rfl 27 (.tmp 11) (.tmp 109) rfl w2.heap.size 0 27 zd (c8 Y) rfl rfl (hR2.row 3 rfl) IY.out FY.out (one8 _) ?_)
  intro wD hr hg hz
  clear hz
  rw [splice_all EY.out] at hr
  have hR3 := hR2.setRow 3 rfl hr hg
  clear hr hg hR2
  go_wp2_with fail
  refine wpMix_next' (fun _ => hR3.sub (List.Sublist.cons_cons _ (List.Sublist.cons_cons _ (List.nil_sublist _)))) ?_
  refine wpMix_loudW _ rfl rfl ?_
  go_wp2_with fail
  refine wpMix_next' (fun _ => hR3.sub (List.Sublist.cons_cons _ (List.Sublist.cons_cons _ (List.nil_sublist _)))) ?_
  refine wpMix_loudW _ rfl rfl ?_
  go_wp2_with fail
  refine wpMix_next' (fun _ => hR3.sub (List.Sublist.cons_cons _ (List.Sublist.cons_cons _ (List.nil_sublist _)))) ?_
  unfold wpMix
  go_wp2
  exact bodyPost_ret (v := .tuple #[.agg (c8 X).toArray, .agg (c8 Y).toArray, .slice B2 (k - 1) (e - 1), .bool true]) (results_rowTT rfl _ _ w1.heap.size w2.heap.size _ _ _ _ rfl rfl (hR3.row 4 rfl) (hR3.row 3 rfl) Try.underlying27 rfl IX.out Try.underlying27 rfl IY.out rfl rfl) rfl ⟨rfl, hR3.grown⟩

set_option maxRecDepth 100000 in
set_option maxHeartbeats 8000000 in
theorem grow_right_empty (w : World) (old x y : List UInt8) (m n h q c : Nat) (A : Option Addr) (whole : Bool) (HO : Hid (old.length = 32)) (HX : Hid (x.length = 32)) (HY : Hid (y.length = 32)) (hmn : (m : Int) < (n : Int)) (n2 : (2 : Int) ≤ (n : Int)) (n3 : (n : Int) ≤ 9223372036854775807) (m1 : (1 : Int) ≤ (m : Int)) (h0 : (0 : Int) ≤ (h : Int)) (hn : (h : Int) ≤ (n : Int)) (hm : (h : Int) < (m : Int)) (hm' : ¬ m ≤ h)
    (B : Option Addr) (e : Nat)
    (cs : ∀ W, Calls Try.prog 46 #[.int .i64 (n : Int)] W fun e w' => e = .returned (.int .i64 (h : Int)) ∧ w' = W)
    (ci : ∀ W, w.grownBy W none → Calls Try.prog 52 #[.agg (c8 old).toArray, .int .i64 ((m : Int) - (h : Int)), .int .i64 ((n : Int) - (h : Int)), .bool false, .slice A q c] W fun e2 w' => e2 = .returned (.tuple #[.agg (c8 x).toArray, .agg (c8 y).toArray, .slice B 0 e, .bool true]) ∧ W.grownBy w' none) :
    Calls Try.prog 52 #[.agg (c8 old).toArray, .int .i64 (m : Int), .int .i64 (n : Int), .bool whole, .slice A q c] w fun e' w' => e' = .returned (.tuple #[.agg (c8 zeros32).toArray, .agg (c8 zeros32).toArray, .slice none 0 0, .bool false]) ∧ w.grownBy w' none := by
  have Iold := Lib.hid (info_dg old HO.out)
  have Fold := Lib.hid (show 0 + (c8 old).length ≤ zd.length by rw [c8_length, HO.out]; decide)
  have Eold := Lib.hid (show (c8 old).length = zd.length by rw [c8_length, HO.out]; decide)
  have Ix := Lib.hid (info_dg x HX.out)
  have Fx := Lib.hid (show 0 + (c8 x).length ≤ zd.length by rw [c8_length, HX.out]; decide)
  have Ex := Lib.hid (show (c8 x).length = zd.length by rw [c8_length, HX.out]; decide)
  have Iy := Lib.hid (info_dg y HY.out)
  have Fy := Lib.hid (show 0 + (c8 y).length ≤ zd.length by rw [c8_length, HY.out]; decide)
  have Ey := Lib.hid (show (c8 y).length = zd.length by rw [c8_length, HY.out]; decide)
  have IZ := Lib.hid (info_dg zeros32 (by simp [zeros32]))
  have FZ := Lib.hid (show 0 + (c8 zeros32).length ≤ zd.length by decide)
  have EZ := Lib.hid (show (c8 zeros32).length = zd.length by decide)
  have Izd := Lib.hid (show (Try.prog.info? 27).map (·.size) = some zd.length from info_dg zeros32 (by simp [zeros32]))
  have t1 : decide ((m : Int) = (n : Int)) = false := by simp; omega
  have t2 : ((m : Int) == (n : Int)) = false := by simp; omega
  have t3 : ¬ m = n := by omega
  have t5 : (0 : Int) ≤ (m : Int) := by omega
  have t4 : decide ((m : Int) ≤ (h : Int)) = false := by simp; omega
  have t6 : decide (m ≤ h) = false := by simp; omega
  go_enter Try.func52, Try.ntmps52
  go_wp2_with (refine wp_box (o := ⟨some 5, _, _, _, _, _⟩) rfl 27 (.tmp 0) rfl (c8 old) rfl ?_)
  intro w1 hr hg hz
  clear hz
  have hS1 := ((Own.start w)).new hr hg
  clear hr hg
  go_wp2_with (refine wp_alloc (o := ⟨some 10, _, _, _, _, _⟩) rfl 27 rfl _ alloc_d ?_)
  intro w2 hr hg hz
  clear hz
  have hS2 := hS1.new hr hg
  clear hr hg
  go_wp2_with (refine wp_alloc (o := ⟨some 11, _, _, _, _, _⟩) rfl 27 rfl _ alloc_d ?_)
  intro w3 hr hg hz
  clear hz
  have hS3 := hS2.new hr hg
  clear hr hg
  go_wp2_with (refine wp_alloc (o := ⟨some 14, _, _, _, _, _⟩) rfl 27 rfl _ alloc_d ?_)
  intro w4 hr hg hz
  clear hz
  have hS4 := hS3.new hr hg
  clear hr hg
  clear hS1 hS2 hS3
  go_wp2_with fail
  refine (cs _).mono ?_
  rintro e' w5 ⟨rfl, rfl⟩
  go_wp2_with (first | (refine wp_load rfl 27 (.tmp 5) rfl Try.underlying27 rfl ⟨w.heap.size, 0, none⟩ rfl (c8 old) Iold.out (row_all (hS4.row 3 rfl)) ?_))
  refine (ci _ hS4.grown).mono ?_
  rintro e' w6 ⟨rfl, hg⟩
  have hS6 := hS4.call hg
  clear hg hS4 ci
  go_wp2_with (refine wp_alloc (o := ⟨some 20, _, _, _, _, _⟩) rfl 27 rfl _ alloc_d ?_)
  intro w7 hr hg hz
  clear hz
  have hS7 := hS6.new hr hg
  clear hr hg
  go_wp2_with (refine wp_alloc (o := ⟨some 21, _, _, _, _, _⟩) rfl 27 rfl _ alloc_d ?_)
  intro w8 hr hg hz
  clear hz
  have hS8 := hS7.new hr hg
  clear hr hg
  clear hS6 hS7
  go_wp2_with (refine wp_storeAgg rfl 27 (.tmp 20) (.tmp 87) rfl w6.heap.size 0 27 zd (c8 x) rfl rfl (hS8.row 1 rfl) Ix.out Fx.out (one8 _) ?_)
  intro w9 hr hg hz
  clear hz
  rw [splice_all Ex.out] at hr
  have hS9 := hS8.setRow 1 rfl hr hg
  clear hr hg hS8
  go_wp2_with (refine wp_storeAgg rfl 27 (.tmp 21) (.tmp 88) rfl w7.heap.size 0 27 zd (c8 y) rfl rfl (hS9.row 0 rfl) Iy.out Fy.out (one8 _) ?_)
  intro wA hr hg hz
  clear hz
  rw [splice_all Ey.out] at hr
  have hSA := hS9.setRow 0 rfl hr hg
  clear hr hg hS9
  go_wp2_with fail
  have hR := hSA.drew
  clear hSA
  refine wp_region_mixC (fun W => Own w W [rowE w3.heap.size 27 zd]) (fun _ => true) [(0, true), (1, true), (2, false), (3, false), (4, false), (5, false)] (by kernel_rfl) (by kernel_rfl) (hR.tail.tail.sub (List.Sublist.cons_cons _ (List.nil_sublist _))) ?_
  refine wpMix_pureW (.agg zd.toArray) rfl rfl (fun W hW => run_load_op 27 (.tmp 14) rfl Try.underlying27 rfl ⟨w3.heap.size, 0, none⟩ rfl _ Izd.out (row_all (hW.row 0 rfl))) ?_
  refine wpMix_pureW (.agg zd.toArray) rfl rfl (fun W hW => run_load_op 27 (.tmp 14) rfl Try.underlying27 rfl ⟨w3.heap.size, 0, none⟩ rfl _ Izd.out (row_all (hW.row 0 rfl))) ?_
  refine wpMix_loudW _ rfl rfl ?_
  go_wp2_with (refine wp_storeAgg rfl 27 (.tmp 10) (.tmp 98) rfl w1.heap.size 0 27 zd (c8 zeros32) rfl rfl (hR.row 4 rfl) IZ.out FZ.out (one8 _) ?_)
  intro wf1 hr hg hz
  clear hz
  rw [splice_all EZ.out] at hr
  have hR2 := hR.setRow 4 rfl hr hg
  clear hr hg hR
  go_wp2_with fail
  refine wpMix_next' (fun _ => hR2.tail.tail.sub (List.Sublist.cons_cons _ (List.nil_sublist _))) ?_
  refine wpMix_loudW _ rfl rfl ?_
  go_wp2_with (refine wp_storeAgg rfl 27 (.tmp 11) (.tmp 99) rfl w2.heap.size 0 27 zd (c8 zeros32) rfl rfl (hR2.row 3 rfl) IZ.out FZ.out (one8 _) ?_)
  intro wf2 hr hg hz
  clear hz
  rw [splice_all EZ.out] at hr
  have hR3 := hR2.setRow 3 rfl hr hg
  clear hr hg hR2
  go_wp2_with fail
  refine wpMix_next' (fun _ => hR3.tail.tail.sub (List.Sublist.cons_cons _ (List.nil_sublist _))) ?_
  refine wpMix_loudW _ rfl rfl ?_
  go_wp2_with fail
  refine wpMix_next' (fun _ => hR3.tail.tail.sub (List.Sublist.cons_cons _ (List.nil_sublist _))) ?_
  refine wpMix_loudW _ rfl rfl ?_
  go_wp2_with fail
  refine wpMix_next' (fun _ => hR3.tail.tail.sub (List.Sublist.cons_cons _ (List.nil_sublist _))) ?_
  unfold wpMix
  go_wp2
  exact bodyPost_ret (v := .tuple #[.agg (c8 zeros32).toArray, .agg (c8 zeros32).toArray, .slice none 0 0, .bool false]) (results_rowTT rfl _ _ w1.heap.size w2.heap.size _ _ _ _ rfl rfl (hR3.row 4 rfl) (hR3.row 3 rfl) Try.underlying27 rfl IZ.out Try.underlying27 rfl IZ.out rfl rfl) rfl ⟨rfl, hR3.grown⟩

set_option maxRecDepth 100000 in
set_option maxHeartbeats 8000000 in
theorem grow_right_no (w : World) (old x y : List UInt8) (m n h q c : Nat) (A : Option Addr) (whole : Bool) (HO : Hid (old.length = 32)) (HX : Hid (x.length = 32)) (HY : Hid (y.length = 32)) (hmn : (m : Int) < (n : Int)) (n2 : (2 : Int) ≤ (n : Int)) (n3 : (n : Int) ≤ 9223372036854775807) (m1 : (1 : Int) ≤ (m : Int)) (h0 : (0 : Int) ≤ (h : Int)) (hn : (h : Int) ≤ (n : Int)) (hm : (h : Int) < (m : Int)) (hm' : ¬ m ≤ h)
    
    (cs : ∀ W, Calls Try.prog 46 #[.int .i64 (n : Int)] W fun e w' => e = .returned (.int .i64 (h : Int)) ∧ w' = W)
    (ci : ∀ W, w.grownBy W none → Calls Try.prog 52 #[.agg (c8 old).toArray, .int .i64 ((m : Int) - (h : Int)), .int .i64 ((n : Int) - (h : Int)), .bool false, .slice A q c] W fun e2 w' => e2 = .returned (.tuple #[.agg (c8 x).toArray, .agg (c8 y).toArray, .slice none 0 0, .bool false]) ∧ W.grownBy w' none) :
    Calls Try.prog 52 #[.agg (c8 old).toArray, .int .i64 (m : Int), .int .i64 (n : Int), .bool whole, .slice A q c] w fun e' w' => e' = .returned (.tuple #[.agg (c8 zeros32).toArray, .agg (c8 zeros32).toArray, .slice none 0 0, .bool false]) ∧ w.grownBy w' none := by
  have Iold := Lib.hid (info_dg old HO.out)
  have Fold := Lib.hid (show 0 + (c8 old).length ≤ zd.length by rw [c8_length, HO.out]; decide)
  have Eold := Lib.hid (show (c8 old).length = zd.length by rw [c8_length, HO.out]; decide)
  have Ix := Lib.hid (info_dg x HX.out)
  have Fx := Lib.hid (show 0 + (c8 x).length ≤ zd.length by rw [c8_length, HX.out]; decide)
  have Ex := Lib.hid (show (c8 x).length = zd.length by rw [c8_length, HX.out]; decide)
  have Iy := Lib.hid (info_dg y HY.out)
  have Fy := Lib.hid (show 0 + (c8 y).length ≤ zd.length by rw [c8_length, HY.out]; decide)
  have Ey := Lib.hid (show (c8 y).length = zd.length by rw [c8_length, HY.out]; decide)
  have IZ := Lib.hid (info_dg zeros32 (by simp [zeros32]))
  have FZ := Lib.hid (show 0 + (c8 zeros32).length ≤ zd.length by decide)
  have EZ := Lib.hid (show (c8 zeros32).length = zd.length by decide)
  have Izd := Lib.hid (show (Try.prog.info? 27).map (·.size) = some zd.length from info_dg zeros32 (by simp [zeros32]))
  have t1 : decide ((m : Int) = (n : Int)) = false := by simp; omega
  have t2 : ((m : Int) == (n : Int)) = false := by simp; omega
  have t3 : ¬ m = n := by omega
  have t5 : (0 : Int) ≤ (m : Int) := by omega
  have t4 : decide ((m : Int) ≤ (h : Int)) = false := by simp; omega
  have t6 : decide (m ≤ h) = false := by simp; omega
  go_enter Try.func52, Try.ntmps52
  go_wp2_with (refine wp_box (o := ⟨some 5, _, _, _, _, _⟩) rfl 27 (.tmp 0) rfl (c8 old) rfl ?_)
  intro w1 hr hg hz
  clear hz
  have hS1 := ((Own.start w)).new hr hg
  clear hr hg
  go_wp2_with (refine wp_alloc (o := ⟨some 10, _, _, _, _, _⟩) rfl 27 rfl _ alloc_d ?_)
  intro w2 hr hg hz
  clear hz
  have hS2 := hS1.new hr hg
  clear hr hg
  go_wp2_with (refine wp_alloc (o := ⟨some 11, _, _, _, _, _⟩) rfl 27 rfl _ alloc_d ?_)
  intro w3 hr hg hz
  clear hz
  have hS3 := hS2.new hr hg
  clear hr hg
  go_wp2_with (refine wp_alloc (o := ⟨some 14, _, _, _, _, _⟩) rfl 27 rfl _ alloc_d ?_)
  intro w4 hr hg hz
  clear hz
  have hS4 := hS3.new hr hg
  clear hr hg
  clear hS1 hS2 hS3
  go_wp2_with fail
  refine (cs _).mono ?_
  rintro e' w5 ⟨rfl, rfl⟩
  go_wp2_with (first | (refine wp_load rfl 27 (.tmp 5) rfl Try.underlying27 rfl ⟨w.heap.size, 0, none⟩ rfl (c8 old) Iold.out (row_all (hS4.row 3 rfl)) ?_))
  refine (ci _ hS4.grown).mono ?_
  rintro e' w6 ⟨rfl, hg⟩
  have hS6 := hS4.call hg
  clear hg hS4 ci
  go_wp2_with (refine wp_alloc (o := ⟨some 20, _, _, _, _, _⟩) rfl 27 rfl _ alloc_d ?_)
  intro w7 hr hg hz
  clear hz
  have hS7 := hS6.new hr hg
  clear hr hg
  go_wp2_with (refine wp_alloc (o := ⟨some 21, _, _, _, _, _⟩) rfl 27 rfl _ alloc_d ?_)
  intro w8 hr hg hz
  clear hz
  have hS8 := hS7.new hr hg
  clear hr hg
  clear hS6 hS7
  go_wp2_with (refine wp_storeAgg rfl 27 (.tmp 20) (.tmp 87) rfl w6.heap.size 0 27 zd (c8 x) rfl rfl (hS8.row 1 rfl) Ix.out Fx.out (one8 _) ?_)
  intro w9 hr hg hz
  clear hz
  rw [splice_all Ex.out] at hr
  have hS9 := hS8.setRow 1 rfl hr hg
  clear hr hg hS8
  go_wp2_with (refine wp_storeAgg rfl 27 (.tmp 21) (.tmp 88) rfl w7.heap.size 0 27 zd (c8 y) rfl rfl (hS9.row 0 rfl) Iy.out Fy.out (one8 _) ?_)
  intro wA hr hg hz
  clear hz
  rw [splice_all Ey.out] at hr
  have hSA := hS9.setRow 0 rfl hr hg
  clear hr hg hS9
  go_wp2_with fail
  have hR := hSA.drew
  clear hSA
  refine wp_region_mixC (fun W => Own w W [rowE w3.heap.size 27 zd]) (fun _ => true) [(0, true), (1, true), (2, false), (3, false), (4, false), (5, false)] (by kernel_rfl) (by kernel_rfl) (hR.tail.tail.sub (List.Sublist.cons_cons _ (List.nil_sublist _))) ?_
  refine wpMix_pureW (.agg zd.toArray) rfl rfl (fun W hW => run_load_op 27 (.tmp 14) rfl Try.underlying27 rfl ⟨w3.heap.size, 0, none⟩ rfl _ Izd.out (row_all (hW.row 0 rfl))) ?_
  refine wpMix_pureW (.agg zd.toArray) rfl rfl (fun W hW => run_load_op 27 (.tmp 14) rfl Try.underlying27 rfl ⟨w3.heap.size, 0, none⟩ rfl _ Izd.out (row_all (hW.row 0 rfl))) ?_
  refine wpMix_loudW _ rfl rfl ?_
  go_wp2_with (refine wp_storeAgg rfl 27 (.tmp 10) (.tmp 98) rfl w1.heap.size 0 27 zd (c8 zeros32) rfl rfl (hR.row 4 rfl) IZ.out FZ.out (one8 _) ?_)
  intro wf1 hr hg hz
  clear hz
  rw [splice_all EZ.out] at hr
  have hR2 := hR.setRow 4 rfl hr hg
  clear hr hg hR
  go_wp2_with fail
  refine wpMix_next' (fun _ => hR2.tail.tail.sub (List.Sublist.cons_cons _ (List.nil_sublist _))) ?_
  refine wpMix_loudW _ rfl rfl ?_
  go_wp2_with (refine wp_storeAgg rfl 27 (.tmp 11) (.tmp 99) rfl w2.heap.size 0 27 zd (c8 zeros32) rfl rfl (hR2.row 3 rfl) IZ.out FZ.out (one8 _) ?_)
  intro wf2 hr hg hz
  clear hz
  rw [splice_all EZ.out] at hr
  have hR3 := hR2.setRow 3 rfl hr hg
  clear hr hg hR2
  go_wp2_with fail
  refine wpMix_next' (fun _ => hR3.tail.tail.sub (List.Sublist.cons_cons _ (List.nil_sublist _))) ?_
  refine wpMix_loudW _ rfl rfl ?_
  go_wp2_with fail
  refine wpMix_next' (fun _ => hR3.tail.tail.sub (List.Sublist.cons_cons _ (List.nil_sublist _))) ?_
  refine wpMix_loudW _ rfl rfl ?_
  go_wp2_with fail
  refine wpMix_next' (fun _ => hR3.tail.tail.sub (List.Sublist.cons_cons _ (List.nil_sublist _))) ?_
  unfold wpMix
  go_wp2
  exact bodyPost_ret (v := .tuple #[.agg (c8 zeros32).toArray, .agg (c8 zeros32).toArray, .slice none 0 0, .bool false]) (results_rowTT rfl _ _ w1.heap.size w2.heap.size _ _ _ _ rfl rfl (hR3.row 4 rfl) (hR3.row 3 rfl) Try.underlying27 rfl IZ.out Try.underlying27 rfl IZ.out rfl rfl) rfl ⟨rfl, hR3.grown⟩

def GroPost (A : Option Addr) (c : Nat) (way : Way) (o : Gro) (e : Ending) : Prop :=
  match o with
  | some (x, y, r) => e = .returned (.tuple #[.agg (c8 x).toArray, .agg (c8 y).toArray, .slice (slA A c (way.length - r.length)) r.length (c - (way.length - r.length)), .bool true])
  | none => e = .returned (.tuple #[.agg (c8 zeros32).toArray, .agg (c8 zeros32).toArray, .slice none 0 0, .bool false])
theorem grow_any : ∀ (M m n : Nat) (old : List UInt8) (whole : Bool) (A : Option Addr) (c : Nat) (way : Way) (w0 w : World), n ≤ M → 1 ≤ m → m ≤ n → n ≤ 9223372036854775807 → old.length = 32 → w0.grownBy w none → Rows32 w0 A c way → c ≤ 9223372036854775807 →
    Calls Try.prog 52 #[.agg (c8 old).toArray, .int .i64 (m : Int), .int .i64 (n : Int), .bool whole, .slice A way.length c] w fun e w' => GroPost A c way (growO old m n whole way) e ∧ w.grownBy w' none := by
  intro M
  induction M with
  | zero => intro m n old whole A c way w0 w hM h1 h2; omega
  | succ M ih =>
    intro m n old whole A c way w0 w hM h1 h2 hn ho hg hw hc
    by_cases hb : n < 2 ∨ m = n
    · rw [growO_base hb]
      have hmn : m = n := by omega
      cases whole with
      | true =>
        refine (grow_whole w old m n way.length c A (Lib.hid ho) hmn).mono fun e w' h => ⟨?_, h.2⟩
        show e = _
        rw [Nat.sub_self]
        exact h.1
      | false =>
        match way, hw with
        | [], _ => exact grow_none w old m n c A (Lib.hid ho) hmn
        | z :: r, hw =>
          have hw' := hw.keep hg
          obtain ⟨b, off, hA, hat⟩ := hw'.at_ 0 (by simp)
          have hzl : z.length = 32 := hw.all z (by simp)
          have hat' : ∀ q u, (c8 z)[q]? = some u → w.cell? ((⟨b, off, none⟩ : Addr).add q) = some u := by simpa using hat
          have hfr' : ∀ W, (Instr.slice 31 (.slice (some ⟨b, off, none⟩) (z :: r).length c) (some (.int .i64 1)) none none).run Try.prog W = .ok (.slice (slA A c 1) ((z :: r).length - 1) (c - 1)) W := fun W => by
            have := run_from32 Try.underlying31 size_d A (z :: r).length c 1 (by simp) hw.le W
            rw [hA] at this ⊢
            exact this
          rw [hA]
          refine (grow_take w old z m n (z :: r).length c b off _ (Lib.hid ho) (Lib.hid hzl) hmn (by simp) (by simp) (Lib.hid hat') hfr').mono fun e w' h => ⟨?_, h.2⟩
          show e = _
          rw [show (z :: r).length - r.length = 1 by simp, h.1, hA]
          rfl
    · have h22 : 2 ≤ n := by omega
      have hlt := half_lt h22
      have hp := half_pos n
      have hsp := fun W => split_any n W h22 hn
      have hz : zeros32.length = 32 := by simp [zeros32]
      by_cases hm : m ≤ half n
      · rw [growO_left hb hm]
        have hin := fun W (hW : w.grownBy W none) => ih m (half n) old whole A c way w0 W (by omega) h1 hm (by omega) ho (grownBy_trans hg hW) hw hc
        have hlen := growO_len (half n) m (half n) old whole way (Nat.le_refl _) ho hw.all
        match hoo : growO old m (half n) whole way with
        | none =>
          rw [hoo] at hin
          exact grow_left_no w old zeros32 zeros32 m n (half n) way.length c A whole (Lib.hid ho) (Lib.hid hz) (Lib.hid hz) (by omega) (by omega) (by omega) (by omega) (by omega) (by omega) (by omega) hm hsp hin
        | some (x, y, []) =>
          rw [hoo] at hin
          obtain ⟨hx, hy, k, hk, hr⟩ := hlen x y [] hoo
          exact grow_left_empty w old x y m n (half n) way.length c A whole (Lib.hid ho) (Lib.hid hx) (Lib.hid hy) (by omega) (by omega) (by omega) (by omega) (by omega) (by omega) (by omega) hm _ _ hsp hin
        | some (x, y, z :: r) =>
          rw [hoo] at hin
          obtain ⟨hx, hy, k, hk, hr⟩ := hlen x y (z :: r) hoo
          obtain ⟨j, hj⟩ : ∃ j, j = way.length - (z :: r).length := ⟨_, rfl⟩
          have hlr : (z :: r).length = way.length - k := by rw [hr]; simp
          have hjk : j = k := by omega
          have hrows := (slA_rows hw j (by omega)).keep hg
          rw [hjk, ← hr] at hrows
          rw [← hjk] at hrows
          obtain ⟨b, off, hA, hat⟩ := hrows.at_ 0 (by simp)
          have hzl : z.length = 32 := hrows.all z (by simp)
          have hat' : ∀ q u, (c8 z)[q]? = some u → w.cell? ((⟨b, off, none⟩ : Addr).add q) = some u := by simpa using hat
          have hj1 : way.length - r.length = j + 1 := by have : (z :: r).length = r.length + 1 := rfl; have : r.length < way.length := by omega
                                                         omega
          obtain ⟨B2, hB2⟩ : ∃ B2, B2 = slA A c (j + 1) := ⟨_, rfl⟩
          have hfr' : ∀ W, (Instr.slice 31 (.slice (some ⟨b, off, none⟩) (z :: r).length (c - j)) (some (.int .i64 1)) none none).run Try.prog W = .ok (.slice B2 ((z :: r).length - 1) (c - j - 1)) W := fun W => by
            have := run_from32 Try.underlying31 size_d (slA A c j) (z :: r).length (c - j) 1 (by simp) hrows.le W
            rw [hB2]
            rw [hA] at this
            show _ = Result.ok (Value.slice (if c - j = 1 then slA A c j else (slA A c j).map fun ad => ad.add (1 * 32)) _ _) W
            rw [hA]
            exact this
          rw [show GroPost A c way (some (x, y, z :: r)) = fun e => e = .returned (.tuple #[.agg (c8 x).toArray, .agg (c8 y).toArray, .slice (slA A c (way.length - (z :: r).length)) (z :: r).length (c - (way.length - (z :: r).length)), .bool true]) from rfl, ← hj, hA] at hin
          refine (grow_left_ok w old x y m n (half n) way.length c A whole (Lib.hid ho) (Lib.hid hx) (Lib.hid hy) (by omega) (by omega) (by omega) (by omega) (by omega) (by omega) (by omega) hm b off (z :: r).length (c - j) z x (nodeL y z) B2 (Lib.hid hzl) (Lib.hid hx) (Lib.hid (nodeL_length _ _)) (by simp) (by simp) (Lib.hid hat') hfr' (fun W => node_any y z W hy hzl) hsp hin).mono fun e w' h => ⟨?_, h.2⟩
          show e = _
          rw [h.1, hj1, ← hB2, show (z :: r).length - 1 = r.length by simp, show c - j - 1 = c - (j + 1) by omega]
      · rw [growO_right hb hm]
        have e1 : ((n - half n : Nat) : Int) = (n : Int) - (half n : Int) := by omega
        have e2 : ((m - half n : Nat) : Int) = (m : Int) - (half n : Int) := by omega
        have hin := fun W (hW : w.grownBy W none) => ih (m - half n) (n - half n) old false A c way w0 W (by omega) (by omega) (by omega) (by omega) ho (grownBy_trans hg hW) hw hc
        have hlen := growO_len (n - half n) (m - half n) (n - half n) old false way (Nat.le_refl _) ho hw.all
        rw [e1, e2] at hin
        match hoo : growO old (m - half n) (n - half n) false way with
        | none =>
          rw [hoo] at hin
          exact grow_right_no w old zeros32 zeros32 m n (half n) way.length c A whole (Lib.hid ho) (Lib.hid hz) (Lib.hid hz) (by omega) (by omega) (by omega) (by omega) (by omega) (by omega) (by omega) hm hsp hin
        | some (x, y, []) =>
          rw [hoo] at hin
          obtain ⟨hx, hy, k, hk, hr⟩ := hlen x y [] hoo
          exact grow_right_empty w old x y m n (half n) way.length c A whole (Lib.hid ho) (Lib.hid hx) (Lib.hid hy) (by omega) (by omega) (by omega) (by omega) (by omega) (by omega) (by omega) hm _ _ hsp hin
        | some (x, y, z :: r) =>
          rw [hoo] at hin
          obtain ⟨hx, hy, k, hk, hr⟩ := hlen x y (z :: r) hoo
          obtain ⟨j, hj⟩ : ∃ j, j = way.length - (z :: r).length := ⟨_, rfl⟩
          have hlr : (z :: r).length = way.length - k := by rw [hr]; simp
          have hjk : j = k := by omega
          have hrows := (slA_rows hw j (by omega)).keep hg
          rw [hjk, ← hr] at hrows
          rw [← hjk] at hrows
          obtain ⟨b, off, hA, hat⟩ := hrows.at_ 0 (by simp)
          have hzl : z.length = 32 := hrows.all z (by simp)
          have hat' : ∀ q u, (c8 z)[q]? = some u → w.cell? ((⟨b, off, none⟩ : Addr).add q) = some u := by simpa using hat
          have hj1 : way.length - r.length = j + 1 := by have : (z :: r).length = r.length + 1 := rfl; have : r.length < way.length := by omega
                                                         omega
          obtain ⟨B2, hB2⟩ : ∃ B2, B2 = slA A c (j + 1) := ⟨_, rfl⟩
          have hfr' : ∀ W, (Instr.slice 31 (.slice (some ⟨b, off, none⟩) (z :: r).length (c - j)) (some (.int .i64 1)) none none).run Try.prog W = .ok (.slice B2 ((z :: r).length - 1) (c - j - 1)) W := fun W => by
            have := run_from32 Try.underlying31 size_d (slA A c j) (z :: r).length (c - j) 1 (by simp) hrows.le W
            rw [hB2]
            rw [hA] at this
            show _ = Result.ok (Value.slice (if c - j = 1 then slA A c j else (slA A c j).map fun ad => ad.add (1 * 32)) _ _) W
            rw [hA]
            exact this
          rw [show GroPost A c way (some (x, y, z :: r)) = fun e => e = .returned (.tuple #[.agg (c8 x).toArray, .agg (c8 y).toArray, .slice (slA A c (way.length - (z :: r).length)) (z :: r).length (c - (way.length - (z :: r).length)), .bool true]) from rfl, ← hj, hA] at hin
          refine (grow_right_ok w old x y m n (half n) way.length c A whole (Lib.hid ho) (Lib.hid hx) (Lib.hid hy) (by omega) (by omega) (by omega) (by omega) (by omega) (by omega) (by omega) hm b off (z :: r).length (c - j) z (nodeL z x) (nodeL z y) B2 (Lib.hid hzl) (Lib.hid (nodeL_length _ _)) (Lib.hid (nodeL_length _ _)) (by simp) (by simp) (Lib.hid hat') hfr' (fun W => node_any z x W hzl hx) (fun W => node_any z y W hzl hy) hsp hin).mono fun e w' h => ⟨?_, h.2⟩
          show e = _
          rw [h.1, hj1, ← hB2, show (z :: r).length - 1 = r.length by simp, show c - j - 1 = c - (j + 1) by omega]
end Go.Proofs.Ytpohjldhbaalbaa
