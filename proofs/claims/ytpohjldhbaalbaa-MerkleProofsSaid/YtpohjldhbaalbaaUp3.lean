/- The contracts of the document's Up and Check. -/
import Derived.Test.YtpohjldhbaalbaaClimb3
namespace Go.Proofs.Ytpohjldhbaalbaa
set_option linter.unusedVariables false
set_option linter.unusedSimpArgs false
set_option linter.unusedSectionVars false
open Go.RowKit
set_option linter.unusedVariables false

section
variable {P : Program}
theorem results_rowT3 {fn : Func} {p u v : Tmp} {ty : TypeId} (h : fn.results = #[.cell p ty, .tmp u, .tmp v]) (tmps : Array Value) (w : World) (g : Nat) (t : TypeId) (cs : List Value) {d : TypeDesc} (hp : tmps.getD p undef = .pointer (some ⟨g, 0, none⟩))
    (hg : Row w g t cs) (hu : P.underlying ty = some d) (hd : (match d with | .struct _ | .array _ _ => true | _ => false) = true) (hi : (P.info? ty).map (·.size) = some cs.length) {v2 v3 : Value} (hv : tmps.getD u undef = v2) (hw : tmps.getD v undef = v3) :
    (results fn tmps).run P w = .ok (.tuple #[.agg cs.toArray, v2, v3]) w := by
  subst hv hw
  have hp' : tmps[p]?.getD undef = .pointer (some ⟨g, 0, none⟩) := by simpa using hp
  simp [results, h, hp', asAddr, run_loadVar_row w g t ty cs.toArray (0, 0) d hg hu hd (by simpa using hi)]
end
set_option maxRecDepth 100000 in
set_option maxHeartbeats 4000000 in
theorem up_few (w : World) (n i m c : Nat) (d : List UInt8) (A : Option Addr) (HD : Hid (d.length = 32)) (hn : n < 2) :
    Calls Try.prog 25 #[.int .i64 (n : Int), .int .i64 (i : Int), .agg (c8 d).toArray, .slice A m c] w fun e w' => e = .returned (.tuple #[.agg (c8 d).toArray, .slice A m c, .bool true]) ∧ w.grownBy w' none := by
  have ID := Lib.hid (info_a32 d HD.out)
  have FD := Lib.hid (show 0 + (c8 d).length ≤ zd.length by rw [c8_length, HD.out]; decide)
  have ED := Lib.hid (show (c8 d).length = zd.length by rw [c8_length, HD.out]; decide)
  have t1 : (n : Int) < 2 := by omega
  have t2 : decide ((n : Int) < 2) = true := by simp; omega
  have t3 : decide (n < 2) = true := by simp; omega
  go_enter Try.func25, Try.ntmps25
  go_wp2_with (refine wp_box (o := ⟨some 6, _, _, _, _, _⟩) rfl 26 (.tmp 2) rfl (c8 d) rfl ?_)
  intro w1 hr hg hz
  clear hz
  have hS1 := ((Own.start w)).new hr hg
  clear hr hg
  go_wp2_with (refine wp_alloc (o := ⟨some 8, _, _, _, _, _⟩) rfl 26 rfl _ alloc_d32 ?_)
  intro w2 hr hg hz
  clear hz
  have hS2 := hS1.new hr hg
  clear hr hg
  clear hS1
  go_wp2_with (first | (refine wp_load rfl 26 (.tmp 6) rfl Try.underlying26 rfl ⟨w.heap.size, 0, none⟩ rfl (c8 d) ID.out (row_all (hS2.row 1 rfl)) ?_) | (refine wp_storeAgg rfl 26 (.tmp 8) (.tmp 20) rfl w1.heap.size 0 26 zd (c8 d) rfl rfl (hS2.row 0 rfl) ID.out FD.out (one8 _) ?_))
  intro w9 hr hg hz
  clear hz
  rw [splice_all ED.out] at hr
  have hS9 := hS2.setRow 0 rfl hr hg
  clear hS2 hr hg
  go_wp2
  exact bodyPost_ret (v := .tuple #[.agg (c8 d).toArray, .slice A m c, .bool true]) (results_rowT3 rfl _ _ w1.heap.size _ _ rfl (hS9.row 0 rfl) Try.underlying26 rfl ID.out rfl rfl) rfl ⟨rfl, hS9.grown⟩

set_option maxRecDepth 100000 in
set_option maxHeartbeats 8000000 in
theorem up_left_ok (w : World) (n h i m c : Nat) (d x : List UInt8) (A : Option Addr) (HD : Hid (d.length = 32)) (HX : Hid (x.length = 32)) (n2 : (2 : Int) ≤ (n : Int)) (n3 : (n : Int) ≤ 9223372036854775807) (h0 : (0 : Int) ≤ (h : Int)) (hn : (h : Int) ≤ (n : Int)) (hi : (i : Int) < (h : Int)) (hi' : i < h)
    (b off k e : Nat) (z Y : List UInt8) (B2 : Option Addr) (HZ : Hid (z.length = 32)) (HY : Hid (Y.length = 32)) (hk : (0 : Int) < (k : Int)) (hk' : 0 < k) (HAT : Hid (∀ j u, (c8 z)[j]? = some u → w.cell? ((⟨b, off, none⟩ : Addr).add j) = some u))
    (hfr : ∀ W, (Instr.slice 22 (.slice (some ⟨b, off, none⟩) k e) (some (.int .i64 1)) none none).run Try.prog W = .ok (.slice B2 (k - 1) (e - 1)) W)
    (cn : ∀ W, Calls Try.prog 41 #[.agg (c8 x).toArray, .agg (c8 z).toArray] W fun e w' => e = .returned (.agg (c8 Y).toArray) ∧ W.grownBy w' none)
    (cs : ∀ W, Calls Try.prog 47 #[.int .i64 (n : Int)] W fun e w' => e = .returned (.int .i64 (h : Int)) ∧ w' = W)
    (ci : ∀ W, w.grownBy W none → Calls Try.prog 25 #[.int .i64 (h : Int), .int .i64 (i : Int), .agg (c8 d).toArray, .slice A m c] W fun e2 w' => e2 = .returned (.tuple #[.agg (c8 x).toArray, .slice (some ⟨b, off, none⟩) k e, .bool true]) ∧ W.grownBy w' none) :
    Calls Try.prog 25 #[.int .i64 (n : Int), .int .i64 (i : Int), .agg (c8 d).toArray, .slice A m c] w fun e' w' => e' = .returned (.tuple #[.agg (c8 Y).toArray, .slice B2 (k - 1) (e - 1), .bool true]) ∧ w.grownBy w' none := by
  have ID := Lib.hid (info_a32 d HD.out)
  have IX := Lib.hid (info_a32 x HX.out)
  have FX := Lib.hid (show 0 + (c8 x).length ≤ zd.length by rw [c8_length, HX.out]; decide)
  have EX := Lib.hid (show (c8 x).length = zd.length by rw [c8_length, HX.out]; decide)
  have t1 : decide ((n : Int) < 2) = false := by simp; omega
  have t2 : decide (n < 2) = false := by simp; omega
  have t3 : ¬ n < 2 := by omega
  have t4 : (0 : Int) ≤ (i : Int) := by omega
  have IZ := Lib.hid (info_a32 z HZ.out)
  have IY := Lib.hid (info_a32 Y HY.out)
  have FY := Lib.hid (show 0 + (c8 Y).length ≤ zd.length by rw [c8_length, HY.out]; decide)
  have EY := Lib.hid (show (c8 Y).length = zd.length by rw [c8_length, HY.out]; decide)
  have k2 : decide ((k : Int) = 0) = false := by simp; omega
  have k3 : ¬ k = 0 := by omega
  have k4 : ((k : Int) == 0) = false := by simp; omega
  go_enter Try.func25, Try.ntmps25
  go_wp2_with (refine wp_box (o := ⟨some 6, _, _, _, _, _⟩) rfl 26 (.tmp 2) rfl (c8 d) rfl ?_)
  intro w1 hr hg hz
  clear hz
  have hS1 := ((Own.start w)).new hr hg
  clear hr hg
  go_wp2_with (refine wp_alloc (o := ⟨some 8, _, _, _, _, _⟩) rfl 26 rfl _ alloc_d32 ?_)
  intro w2 hr hg hz
  clear hz
  have hS2 := hS1.new hr hg
  clear hr hg
  clear hS1
  go_wp2_with fail
  refine (cs _).mono ?_
  rintro e' w3 ⟨rfl, rfl⟩
  go_wp2_with (first | (refine wp_load rfl 26 (.tmp 6) rfl Try.underlying26 rfl ⟨w.heap.size, 0, none⟩ rfl (c8 d) ID.out (row_all (hS2.row 1 rfl)) ?_))
  refine (ci _ hS2.grown).mono ?_
  rintro e' w4 ⟨rfl, hg⟩
  have hS4 := hS2.call hg
  clear hg hS2 ci
  go_wp2_with (refine wp_alloc (o := ⟨some 12, _, _, _, _, _⟩) rfl 26 rfl _ alloc_d32 ?_)
  intro w5 hr hg hz
  clear hz
  have hS5 := hS4.new hr hg
  clear hr hg
  clear hS4
  go_wp2_with (refine wp_storeAgg rfl 26 (.tmp 12) (.tmp 33) rfl w4.heap.size 0 26 zd (c8 x) rfl rfl (hS5.row 0 rfl) IX.out FX.out (one8 _) ?_)
  intro w6 hr hg hz
  clear hz
  rw [splice_all EX.out] at hr
  have hS6 := hS5.setRow 0 rfl hr hg
  clear hS5 hr hg
  go_wp2_with fail
  have hS6' : Own w w6 [rowE w4.heap.size 26 (c8 x), rowE w1.heap.size 26 zd, rowE w.heap.size 26 (c8 d)] := hS6
  clear hS6
  have hS7 := hS6'.drew
  clear hS6'
  refine wp_region_mixC (fun W => Own w W [rowE w4.heap.size 26 (c8 x)]) (fun _ => true) [(0, true), (1, true), (2, true), (3, true), (5, true), (6, true), (4, false), (7, false), (8, false), (9, false)] (by kernel_rfl) (by kernel_rfl) (hS7.sub (List.Sublist.cons_cons _ (List.nil_sublist _))) ?_
  refine wpMix_pureW (.agg (c8 x).toArray) rfl rfl (fun W hW => run_load_op 26 (.tmp 12) rfl Try.underlying26 rfl ⟨w4.heap.size, 0, none⟩ rfl _ IX.out (row_all (hW.row 0 rfl))) ?_
  iterate 2 (refine wpMix_step rfl (fun K hK => ?_); go_simp; (try go_bits); with_reducible refine hK _ ?_; clear hK K)
  refine wpMix_pureW (.agg (c8 z).toArray) rfl rfl (fun W hW => run_load_op 26 (.tmp 46) rfl Try.underlying26 rfl ⟨b, off, none⟩ rfl _ IZ.out (fun j u hu => hW.cell (HAT.out j u hu))) ?_
  iterate 2 (refine wpMix_step rfl (fun K hK => ?_); go_simp; (try go_bits); with_reducible refine hK _ ?_; clear hK K)
  refine wpMix_loudW _ rfl rfl ?_
  go_wp2_with fail
  refine (cn _).mono ?_
  rintro e w8 ⟨rfl, hg⟩
  have hS8 := hS7.call hg
  clear hg hS7
  go_wp2_with fail
  refine wpMix_next' (fun _ => hS8.sub (List.Sublist.cons_cons _ (List.nil_sublist _))) ?_
  refine wpMix_loudW _ rfl rfl ?_
  go_wp2_with (refine wp_storeAgg rfl 26 (.tmp 8) (.tmp 48) rfl w1.heap.size 0 26 zd (c8 Y) rfl rfl (hS8.row 1 rfl) IY.out FY.out (one8 _) ?_)
  intro w9 hr hg hz
  clear hz
  rw [splice_all EY.out] at hr
  have hS9 := hS8.setRow 1 rfl hr hg
  clear hS8 hr hg
  go_wp2_with fail
  refine wpMix_next' (fun _ => hS9.sub (List.Sublist.cons_cons _ (List.nil_sublist _))) ?_
  refine wpMix_loudW _ rfl rfl ?_
  go_wp2_with fail
  refine wpMix_next' (fun _ => hS9.sub (List.Sublist.cons_cons _ (List.nil_sublist _))) ?_
  refine wpMix_loudW _ rfl rfl ?_
  go_wp2_with fail
  refine wpMix_next' (fun _ => hS9.sub (List.Sublist.cons_cons _ (List.nil_sublist _))) ?_
  unfold wpMix
  go_wp2
  exact bodyPost_ret (v := .tuple #[.agg (c8 Y).toArray, .slice B2 (k - 1) (e - 1), .bool true]) (results_rowT3 rfl _ _ w1.heap.size _ _ rfl (hS9.row 1 rfl) Try.underlying26 rfl IY.out rfl rfl) rfl ⟨rfl, hS9.grown⟩

set_option maxRecDepth 100000 in
set_option maxHeartbeats 8000000 in
theorem up_left_empty (w : World) (n h i m c : Nat) (d x : List UInt8) (A : Option Addr) (HD : Hid (d.length = 32)) (HX : Hid (x.length = 32)) (n2 : (2 : Int) ≤ (n : Int)) (n3 : (n : Int) ≤ 9223372036854775807) (h0 : (0 : Int) ≤ (h : Int)) (hn : (h : Int) ≤ (n : Int)) (hi : (i : Int) < (h : Int)) (hi' : i < h)
    (B : Option Addr) (e : Nat)
    (cs : ∀ W, Calls Try.prog 47 #[.int .i64 (n : Int)] W fun e w' => e = .returned (.int .i64 (h : Int)) ∧ w' = W)
    (ci : ∀ W, w.grownBy W none → Calls Try.prog 25 #[.int .i64 (h : Int), .int .i64 (i : Int), .agg (c8 d).toArray, .slice A m c] W fun e2 w' => e2 = .returned (.tuple #[.agg (c8 x).toArray, .slice B 0 e, .bool true]) ∧ W.grownBy w' none) :
    Calls Try.prog 25 #[.int .i64 (n : Int), .int .i64 (i : Int), .agg (c8 d).toArray, .slice A m c] w fun e' w' => e' = .returned (.tuple #[.agg (c8 zeros32).toArray, .slice none 0 0, .bool false]) ∧ w.grownBy w' none := by
  have ID := Lib.hid (info_a32 d HD.out)
  have IX := Lib.hid (info_a32 x HX.out)
  have FX := Lib.hid (show 0 + (c8 x).length ≤ zd.length by rw [c8_length, HX.out]; decide)
  have EX := Lib.hid (show (c8 x).length = zd.length by rw [c8_length, HX.out]; decide)
  have t1 : decide ((n : Int) < 2) = false := by simp; omega
  have t2 : decide (n < 2) = false := by simp; omega
  have t3 : ¬ n < 2 := by omega
  have t4 : (0 : Int) ≤ (i : Int) := by omega
  have IZ := Lib.hid (info_a32 zeros32 (by simp [zeros32]))
  have FZ := Lib.hid (show 0 + (c8 zeros32).length ≤ zd.length by decide)
  have EZ := Lib.hid (show (c8 zeros32).length = zd.length by decide)
  go_enter Try.func25, Try.ntmps25
  go_wp2_with (refine wp_box (o := ⟨some 6, _, _, _, _, _⟩) rfl 26 (.tmp 2) rfl (c8 d) rfl ?_)
  intro w1 hr hg hz
  clear hz
  have hS1 := ((Own.start w)).new hr hg
  clear hr hg
  go_wp2_with (refine wp_alloc (o := ⟨some 8, _, _, _, _, _⟩) rfl 26 rfl _ alloc_d32 ?_)
  intro w2 hr hg hz
  clear hz
  have hS2 := hS1.new hr hg
  clear hr hg
  clear hS1
  go_wp2_with fail
  refine (cs _).mono ?_
  rintro e' w3 ⟨rfl, rfl⟩
  go_wp2_with (first | (refine wp_load rfl 26 (.tmp 6) rfl Try.underlying26 rfl ⟨w.heap.size, 0, none⟩ rfl (c8 d) ID.out (row_all (hS2.row 1 rfl)) ?_))
  refine (ci _ hS2.grown).mono ?_
  rintro e' w4 ⟨rfl, hg⟩
  have hS4 := hS2.call hg
  clear hg hS2 ci
  go_wp2_with (refine wp_alloc (o := ⟨some 12, _, _, _, _, _⟩) rfl 26 rfl _ alloc_d32 ?_)
  intro w5 hr hg hz
  clear hz
  have hS5 := hS4.new hr hg
  clear hr hg
  clear hS4
  go_wp2_with (refine wp_storeAgg rfl 26 (.tmp 12) (.tmp 33) rfl w4.heap.size 0 26 zd (c8 x) rfl rfl (hS5.row 0 rfl) IX.out FX.out (one8 _) ?_)
  intro w6 hr hg hz
  clear hz
  rw [splice_all EX.out] at hr
  have hS6 := hS5.setRow 0 rfl hr hg
  clear hS5 hr hg
  go_wp2_with (refine wp_storeAgg rfl 26 (.tmp 8) (.tmp 43) rfl w1.heap.size 0 26 zd (c8 zeros32) rfl (by rw [z32lit]; rfl) (hS6.row 1 rfl) IZ.out FZ.out (one8 _) ?_)
  intro w9 hr hg hz
  clear hz
  rw [splice_all EZ.out] at hr
  have hS9 := hS6.setRow 1 rfl hr hg
  clear hS6 hr hg
  go_wp2
  exact bodyPost_ret (v := .tuple #[.agg (c8 zeros32).toArray, .slice none 0 0, .bool false]) (results_rowT3 rfl _ _ w1.heap.size _ _ rfl (hS9.row 1 rfl) Try.underlying26 rfl IZ.out rfl rfl) rfl ⟨rfl, hS9.grown⟩

set_option maxRecDepth 100000 in
set_option maxHeartbeats 8000000 in
theorem up_left_no (w : World) (n h i m c : Nat) (d x : List UInt8) (A : Option Addr) (HD : Hid (d.length = 32)) (HX : Hid (x.length = 32)) (n2 : (2 : Int) ≤ (n : Int)) (n3 : (n : Int) ≤ 9223372036854775807) (h0 : (0 : Int) ≤ (h : Int)) (hn : (h : Int) ≤ (n : Int)) (hi : (i : Int) < (h : Int)) (hi' : i < h)
    
    (cs : ∀ W, Calls Try.prog 47 #[.int .i64 (n : Int)] W fun e w' => e = .returned (.int .i64 (h : Int)) ∧ w' = W)
    (ci : ∀ W, w.grownBy W none → Calls Try.prog 25 #[.int .i64 (h : Int), .int .i64 (i : Int), .agg (c8 d).toArray, .slice A m c] W fun e2 w' => e2 = .returned (.tuple #[.agg (c8 x).toArray, .slice none 0 0, .bool false]) ∧ W.grownBy w' none) :
    Calls Try.prog 25 #[.int .i64 (n : Int), .int .i64 (i : Int), .agg (c8 d).toArray, .slice A m c] w fun e' w' => e' = .returned (.tuple #[.agg (c8 zeros32).toArray, .slice none 0 0, .bool false]) ∧ w.grownBy w' none := by
  have ID := Lib.hid (info_a32 d HD.out)
  have IX := Lib.hid (info_a32 x HX.out)
  have FX := Lib.hid (show 0 + (c8 x).length ≤ zd.length by rw [c8_length, HX.out]; decide)
  have EX := Lib.hid (show (c8 x).length = zd.length by rw [c8_length, HX.out]; decide)
  have t1 : decide ((n : Int) < 2) = false := by simp; omega
  have t2 : decide (n < 2) = false := by simp; omega
  have t3 : ¬ n < 2 := by omega
  have t4 : (0 : Int) ≤ (i : Int) := by omega
  have IZ := Lib.hid (info_a32 zeros32 (by simp [zeros32]))
  have FZ := Lib.hid (show 0 + (c8 zeros32).length ≤ zd.length by decide)
  have EZ := Lib.hid (show (c8 zeros32).length = zd.length by decide)
  go_enter Try.func25, Try.ntmps25
  go_wp2_with (refine wp_box (o := ⟨some 6, _, _, _, _, _⟩) rfl 26 (.tmp 2) rfl (c8 d) rfl ?_)
  intro w1 hr hg hz
  clear hz
  have hS1 := ((Own.start w)).new hr hg
  clear hr hg
  go_wp2_with (refine wp_alloc (o := ⟨some 8, _, _, _, _, _⟩) rfl 26 rfl _ alloc_d32 ?_)
  intro w2 hr hg hz
  clear hz
  have hS2 := hS1.new hr hg
  clear hr hg
  clear hS1
  go_wp2_with fail
  refine (cs _).mono ?_
  rintro e' w3 ⟨rfl, rfl⟩
  go_wp2_with (first | (refine wp_load rfl 26 (.tmp 6) rfl Try.underlying26 rfl ⟨w.heap.size, 0, none⟩ rfl (c8 d) ID.out (row_all (hS2.row 1 rfl)) ?_))
  refine (ci _ hS2.grown).mono ?_
  rintro e' w4 ⟨rfl, hg⟩
  have hS4 := hS2.call hg
  clear hg hS2 ci
  go_wp2_with (refine wp_alloc (o := ⟨some 12, _, _, _, _, _⟩) rfl 26 rfl _ alloc_d32 ?_)
  intro w5 hr hg hz
  clear hz
  have hS5 := hS4.new hr hg
  clear hr hg
  clear hS4
  go_wp2_with (refine wp_storeAgg rfl 26 (.tmp 12) (.tmp 33) rfl w4.heap.size 0 26 zd (c8 x) rfl rfl (hS5.row 0 rfl) IX.out FX.out (one8 _) ?_)
  intro w6 hr hg hz
  clear hz
  rw [splice_all EX.out] at hr
  have hS6 := hS5.setRow 0 rfl hr hg
  clear hS5 hr hg
  go_wp2_with (refine wp_storeAgg rfl 26 (.tmp 8) (.tmp 43) rfl w1.heap.size 0 26 zd (c8 zeros32) rfl (by rw [z32lit]; rfl) (hS6.row 1 rfl) IZ.out FZ.out (one8 _) ?_)
  intro w9 hr hg hz
  clear hz
  rw [splice_all EZ.out] at hr
  have hS9 := hS6.setRow 1 rfl hr hg
  clear hS6 hr hg
  go_wp2
  exact bodyPost_ret (v := .tuple #[.agg (c8 zeros32).toArray, .slice none 0 0, .bool false]) (results_rowT3 rfl _ _ w1.heap.size _ _ rfl (hS9.row 1 rfl) Try.underlying26 rfl IZ.out rfl rfl) rfl ⟨rfl, hS9.grown⟩

set_option maxRecDepth 100000 in
set_option maxHeartbeats 8000000 in
theorem up_right_ok (w : World) (n h i m c : Nat) (d x : List UInt8) (A : Option Addr) (HD : Hid (d.length = 32)) (HX : Hid (x.length = 32)) (n2 : (2 : Int) ≤ (n : Int)) (n3 : (n : Int) ≤ 9223372036854775807) (h0 : (0 : Int) ≤ (h : Int)) (hn : (h : Int) ≤ (n : Int)) (hi : (h : Int) ≤ (i : Int)) (hi' : ¬ i < h) (hi2 : (i : Int) < (n : Int))
    (b off k e : Nat) (z Y : List UInt8) (B2 : Option Addr) (HZ : Hid (z.length = 32)) (HY : Hid (Y.length = 32)) (hk : (0 : Int) < (k : Int)) (hk' : 0 < k) (HAT : Hid (∀ j u, (c8 z)[j]? = some u → w.cell? ((⟨b, off, none⟩ : Addr).add j) = some u))
    (hfr : ∀ W, (Instr.slice 22 (.slice (some ⟨b, off, none⟩) k e) (some (.int .i64 1)) none none).run Try.prog W = .ok (.slice B2 (k - 1) (e - 1)) W)
    (cn : ∀ W, Calls Try.prog 41 #[.agg (c8 z).toArray, .agg (c8 x).toArray] W fun e w' => e = .returned (.agg (c8 Y).toArray) ∧ W.grownBy w' none)
    (cs : ∀ W, Calls Try.prog 47 #[.int .i64 (n : Int)] W fun e w' => e = .returned (.int .i64 (h : Int)) ∧ w' = W)
    (ci : ∀ W, w.grownBy W none → Calls Try.prog 25 #[.int .i64 ((n : Int) - (h : Int)), .int .i64 ((i : Int) - (h : Int)), .agg (c8 d).toArray, .slice A m c] W fun e2 w' => e2 = .returned (.tuple #[.agg (c8 x).toArray, .slice (some ⟨b, off, none⟩) k e, .bool true]) ∧ W.grownBy w' none) :
    Calls Try.prog 25 #[.int .i64 (n : Int), .int .i64 (i : Int), .agg (c8 d).toArray, .slice A m c] w fun e' w' => e' = .returned (.tuple #[.agg (c8 Y).toArray, .slice B2 (k - 1) (e - 1), .bool true]) ∧ w.grownBy w' none := by
  have ID := Lib.hid (info_a32 d HD.out)
  have IX := Lib.hid (info_a32 x HX.out)
  have FX := Lib.hid (show 0 + (c8 x).length ≤ zd.length by rw [c8_length, HX.out]; decide)
  have EX := Lib.hid (show (c8 x).length = zd.length by rw [c8_length, HX.out]; decide)
  have t1 : decide ((n : Int) < 2) = false := by simp; omega
  have t2 : decide (n < 2) = false := by simp; omega
  have t3 : ¬ n < 2 := by omega
  have t4 : (0 : Int) ≤ (i : Int) := by omega
  have IZ := Lib.hid (info_a32 z HZ.out)
  have IY := Lib.hid (info_a32 Y HY.out)
  have FY := Lib.hid (show 0 + (c8 Y).length ≤ zd.length by rw [c8_length, HY.out]; decide)
  have EY := Lib.hid (show (c8 Y).length = zd.length by rw [c8_length, HY.out]; decide)
  have k2 : decide ((k : Int) = 0) = false := by simp; omega
  have k3 : ¬ k = 0 := by omega
  have k4 : ((k : Int) == 0) = false := by simp; omega
  go_enter Try.func25, Try.ntmps25
  go_wp2_with (refine wp_box (o := ⟨some 6, _, _, _, _, _⟩) rfl 26 (.tmp 2) rfl (c8 d) rfl ?_)
  intro w1 hr hg hz
  clear hz
  have hS1 := ((Own.start w)).new hr hg
  clear hr hg
  go_wp2_with (refine wp_alloc (o := ⟨some 8, _, _, _, _, _⟩) rfl 26 rfl _ alloc_d32 ?_)
  intro w2 hr hg hz
  clear hz
  have hS2 := hS1.new hr hg
  clear hr hg
  clear hS1
  go_wp2_with fail
  refine (cs _).mono ?_
  rintro e' w3 ⟨rfl, rfl⟩
  go_wp2_with (first | (refine wp_load rfl 26 (.tmp 6) rfl Try.underlying26 rfl ⟨w.heap.size, 0, none⟩ rfl (c8 d) ID.out (row_all (hS2.row 1 rfl)) ?_))
  refine (ci _ hS2.grown).mono ?_
  rintro e' w4 ⟨rfl, hg⟩
  have hS4 := hS2.call hg
  clear hg hS2 ci
  go_wp2_with (refine wp_alloc (o := ⟨some 15, _, _, _, _, _⟩) rfl 26 rfl _ alloc_d32 ?_)
  intro w5 hr hg hz
  clear hz
  have hS5 := hS4.new hr hg
  clear hr hg
  clear hS4
  go_wp2_with (refine wp_storeAgg rfl 26 (.tmp 15) (.tmp 61) rfl w4.heap.size 0 26 zd (c8 x) rfl rfl (hS5.row 0 rfl) IX.out FX.out (one8 _) ?_)
  intro w6 hr hg hz
  clear hz
  rw [splice_all EX.out] at hr
  have hS6 := hS5.setRow 0 rfl hr hg
  clear hS5 hr hg
  go_wp2_with fail
  have hS6' : Own w w6 [rowE w4.heap.size 26 (c8 x), rowE w1.heap.size 26 zd, rowE w.heap.size 26 (c8 d)] := hS6
  clear hS6
  have hS7 := hS6'.drew
  clear hS6'
  refine wp_region_mixC (fun W => Own w W [rowE w4.heap.size 26 (c8 x)]) (fun _ => true) [(0, true), (1, true), (2, true), (3, true), (5, true), (6, true), (4, false), (7, false), (8, false), (9, false)] (by kernel_rfl) (by kernel_rfl) (hS7.sub (List.Sublist.cons_cons _ (List.nil_sublist _))) ?_
  iterate 2 (refine wpMix_step rfl (fun K hK => ?_); go_simp; (try go_bits); with_reducible refine hK _ ?_; clear hK K)
  refine wpMix_pureW (.agg (c8 z).toArray) rfl rfl (fun W hW => run_load_op 26 (.tmp 73) rfl Try.underlying26 rfl ⟨b, off, none⟩ rfl _ IZ.out (fun j u hu => hW.cell (HAT.out j u hu))) ?_
  refine wpMix_pureW (.agg (c8 x).toArray) rfl rfl (fun W hW => run_load_op 26 (.tmp 15) rfl Try.underlying26 rfl ⟨w4.heap.size, 0, none⟩ rfl _ IX.out (row_all (hW.row 0 rfl))) ?_
  iterate 2 (refine wpMix_step rfl (fun K hK => ?_); go_simp; (try go_bits); with_reducible refine hK _ ?_; clear hK K)
  refine wpMix_loudW _ rfl rfl ?_
  go_wp2_with fail
  refine (cn _).mono ?_
  rintro e w8 ⟨rfl, hg⟩
  have hS8 := hS7.call hg
  clear hg hS7
  go_wp2_with fail
  refine wpMix_next' (fun _ => hS8.sub (List.Sublist.cons_cons _ (List.nil_sublist _))) ?_
  refine wpMix_loudW _ rfl rfl ?_
  go_wp2_with (refine wp_storeAgg rfl 26 (.tmp 8) (.tmp 76) rfl w1.heap.size 0 26 zd (c8 Y) rfl rfl (hS8.row 1 rfl) IY.out FY.out (one8 _) ?_)
  intro w9 hr hg hz
  clear hz
  rw [splice_all EY.out] at hr
  have hS9 := hS8.setRow 1 rfl hr hg
  clear hS8 hr hg
  go_wp2_with fail
  refine wpMix_next' (fun _ => hS9.sub (List.Sublist.cons_cons _ (List.nil_sublist _))) ?_
  refine wpMix_loudW _ rfl rfl ?_
  go_wp2_with fail
  refine wpMix_next' (fun _ => hS9.sub (List.Sublist.cons_cons _ (List.nil_sublist _))) ?_
  refine wpMix_loudW _ rfl rfl ?_
  go_wp2_with fail
  refine wpMix_next' (fun _ => hS9.sub (List.Sublist.cons_cons _ (List.nil_sublist _))) ?_
  unfold wpMix
  go_wp2
  exact bodyPost_ret (v := .tuple #[.agg (c8 Y).toArray, .slice B2 (k - 1) (e - 1), .bool true]) (results_rowT3 rfl _ _ w1.heap.size _ _ rfl (hS9.row 1 rfl) Try.underlying26 rfl IY.out rfl rfl) rfl ⟨rfl, hS9.grown⟩

set_option maxRecDepth 100000 in
set_option maxHeartbeats 8000000 in
theorem up_right_empty (w : World) (n h i m c : Nat) (d x : List UInt8) (A : Option Addr) (HD : Hid (d.length = 32)) (HX : Hid (x.length = 32)) (n2 : (2 : Int) ≤ (n : Int)) (n3 : (n : Int) ≤ 9223372036854775807) (h0 : (0 : Int) ≤ (h : Int)) (hn : (h : Int) ≤ (n : Int)) (hi : (h : Int) ≤ (i : Int)) (hi' : ¬ i < h) (hi2 : (i : Int) < (n : Int))
    (B : Option Addr) (e : Nat)
    (cs : ∀ W, Calls Try.prog 47 #[.int .i64 (n : Int)] W fun e w' => e = .returned (.int .i64 (h : Int)) ∧ w' = W)
    (ci : ∀ W, w.grownBy W none → Calls Try.prog 25 #[.int .i64 ((n : Int) - (h : Int)), .int .i64 ((i : Int) - (h : Int)), .agg (c8 d).toArray, .slice A m c] W fun e2 w' => e2 = .returned (.tuple #[.agg (c8 x).toArray, .slice B 0 e, .bool true]) ∧ W.grownBy w' none) :
    Calls Try.prog 25 #[.int .i64 (n : Int), .int .i64 (i : Int), .agg (c8 d).toArray, .slice A m c] w fun e' w' => e' = .returned (.tuple #[.agg (c8 zeros32).toArray, .slice none 0 0, .bool false]) ∧ w.grownBy w' none := by
  have ID := Lib.hid (info_a32 d HD.out)
  have IX := Lib.hid (info_a32 x HX.out)
  have FX := Lib.hid (show 0 + (c8 x).length ≤ zd.length by rw [c8_length, HX.out]; decide)
  have EX := Lib.hid (show (c8 x).length = zd.length by rw [c8_length, HX.out]; decide)
  have t1 : decide ((n : Int) < 2) = false := by simp; omega
  have t2 : decide (n < 2) = false := by simp; omega
  have t3 : ¬ n < 2 := by omega
  have t4 : (0 : Int) ≤ (i : Int) := by omega
  have IZ := Lib.hid (info_a32 zeros32 (by simp [zeros32]))
  have FZ := Lib.hid (show 0 + (c8 zeros32).length ≤ zd.length by decide)
  have EZ := Lib.hid (show (c8 zeros32).length = zd.length by decide)
  go_enter Try.func25, Try.ntmps25
  go_wp2_with (refine wp_box (o := ⟨some 6, _, _, _, _, _⟩) rfl 26 (.tmp 2) rfl (c8 d) rfl ?_)
  intro w1 hr hg hz
  clear hz
  have hS1 := ((Own.start w)).new hr hg
  clear hr hg
  go_wp2_with (refine wp_alloc (o := ⟨some 8, _, _, _, _, _⟩) rfl 26 rfl _ alloc_d32 ?_)
  intro w2 hr hg hz
  clear hz
  have hS2 := hS1.new hr hg
  clear hr hg
  clear hS1
  go_wp2_with fail
  refine (cs _).mono ?_
  rintro e' w3 ⟨rfl, rfl⟩
  go_wp2_with (first | (refine wp_load rfl 26 (.tmp 6) rfl Try.underlying26 rfl ⟨w.heap.size, 0, none⟩ rfl (c8 d) ID.out (row_all (hS2.row 1 rfl)) ?_))
  refine (ci _ hS2.grown).mono ?_
  rintro e' w4 ⟨rfl, hg⟩
  have hS4 := hS2.call hg
  clear hg hS2 ci
  go_wp2_with (refine wp_alloc (o := ⟨some 15, _, _, _, _, _⟩) rfl 26 rfl _ alloc_d32 ?_)
  intro w5 hr hg hz
  clear hz
  have hS5 := hS4.new hr hg
  clear hr hg
  clear hS4
  go_wp2_with (refine wp_storeAgg rfl 26 (.tmp 15) (.tmp 61) rfl w4.heap.size 0 26 zd (c8 x) rfl rfl (hS5.row 0 rfl) IX.out FX.out (one8 _) ?_)
  intro w6 hr hg hz
  clear hz
  rw [splice_all EX.out] at hr
  have hS6 := hS5.setRow 0 rfl hr hg
  clear hS5 hr hg
  go_wp2_with (refine wp_storeAgg rfl 26 (.tmp 8) (.tmp 71) rfl w1.heap.size 0 26 zd (c8 zeros32) rfl (by rw [z32lit]; rfl) (hS6.row 1 rfl) IZ.out FZ.out (one8 _) ?_)
  intro w9 hr hg hz
  clear hz
  rw [splice_all EZ.out] at hr
  have hS9 := hS6.setRow 1 rfl hr hg
  clear hS6 hr hg
  go_wp2
  exact bodyPost_ret (v := .tuple #[.agg (c8 zeros32).toArray, .slice none 0 0, .bool false]) (results_rowT3 rfl _ _ w1.heap.size _ _ rfl (hS9.row 1 rfl) Try.underlying26 rfl IZ.out rfl rfl) rfl ⟨rfl, hS9.grown⟩

set_option maxRecDepth 100000 in
set_option maxHeartbeats 8000000 in
theorem up_right_no (w : World) (n h i m c : Nat) (d x : List UInt8) (A : Option Addr) (HD : Hid (d.length = 32)) (HX : Hid (x.length = 32)) (n2 : (2 : Int) ≤ (n : Int)) (n3 : (n : Int) ≤ 9223372036854775807) (h0 : (0 : Int) ≤ (h : Int)) (hn : (h : Int) ≤ (n : Int)) (hi : (h : Int) ≤ (i : Int)) (hi' : ¬ i < h) (hi2 : (i : Int) < (n : Int))
    
    (cs : ∀ W, Calls Try.prog 47 #[.int .i64 (n : Int)] W fun e w' => e = .returned (.int .i64 (h : Int)) ∧ w' = W)
    (ci : ∀ W, w.grownBy W none → Calls Try.prog 25 #[.int .i64 ((n : Int) - (h : Int)), .int .i64 ((i : Int) - (h : Int)), .agg (c8 d).toArray, .slice A m c] W fun e2 w' => e2 = .returned (.tuple #[.agg (c8 x).toArray, .slice none 0 0, .bool false]) ∧ W.grownBy w' none) :
    Calls Try.prog 25 #[.int .i64 (n : Int), .int .i64 (i : Int), .agg (c8 d).toArray, .slice A m c] w fun e' w' => e' = .returned (.tuple #[.agg (c8 zeros32).toArray, .slice none 0 0, .bool false]) ∧ w.grownBy w' none := by
  have ID := Lib.hid (info_a32 d HD.out)
  have IX := Lib.hid (info_a32 x HX.out)
  have FX := Lib.hid (show 0 + (c8 x).length ≤ zd.length by rw [c8_length, HX.out]; decide)
  have EX := Lib.hid (show (c8 x).length = zd.length by rw [c8_length, HX.out]; decide)
  have t1 : decide ((n : Int) < 2) = false := by simp; omega
  have t2 : decide (n < 2) = false := by simp; omega
  have t3 : ¬ n < 2 := by omega
  have t4 : (0 : Int) ≤ (i : Int) := by omega
  have IZ := Lib.hid (info_a32 zeros32 (by simp [zeros32]))
  have FZ := Lib.hid (show 0 + (c8 zeros32).length ≤ zd.length by decide)
  have EZ := Lib.hid (show (c8 zeros32).length = zd.length by decide)
  go_enter Try.func25, Try.ntmps25
  go_wp2_with (refine wp_box (o := ⟨some 6, _, _, _, _, _⟩) rfl 26 (.tmp 2) rfl (c8 d) rfl ?_)
  intro w1 hr hg hz
  clear hz
  have hS1 := ((Own.start w)).new hr hg
  clear hr hg
  go_wp2_with (refine wp_alloc (o := ⟨some 8, _, _, _, _, _⟩) rfl 26 rfl _ alloc_d32 ?_)
  intro w2 hr hg hz
  clear hz
  have hS2 := hS1.new hr hg
  clear hr hg
  clear hS1
  go_wp2_with fail
  refine (cs _).mono ?_
  rintro e' w3 ⟨rfl, rfl⟩
  go_wp2_with (first | (refine wp_load rfl 26 (.tmp 6) rfl Try.underlying26 rfl ⟨w.heap.size, 0, none⟩ rfl (c8 d) ID.out (row_all (hS2.row 1 rfl)) ?_))
  refine (ci _ hS2.grown).mono ?_
  rintro e' w4 ⟨rfl, hg⟩
  have hS4 := hS2.call hg
  clear hg hS2 ci
  go_wp2_with (refine wp_alloc (o := ⟨some 15, _, _, _, _, _⟩) rfl 26 rfl _ alloc_d32 ?_)
  intro w5 hr hg hz
  clear hz
  have hS5 := hS4.new hr hg
  clear hr hg
  clear hS4
  go_wp2_with (refine wp_storeAgg rfl 26 (.tmp 15) (.tmp 61) rfl w4.heap.size 0 26 zd (c8 x) rfl rfl (hS5.row 0 rfl) IX.out FX.out (one8 _) ?_)
  intro w6 hr hg hz
  clear hz
  rw [splice_all EX.out] at hr
  have hS6 := hS5.setRow 0 rfl hr hg
  clear hS5 hr hg
  go_wp2_with (refine wp_storeAgg rfl 26 (.tmp 8) (.tmp 71) rfl w1.heap.size 0 26 zd (c8 zeros32) rfl (by rw [z32lit]; rfl) (hS6.row 1 rfl) IZ.out FZ.out (one8 _) ?_)
  intro w9 hr hg hz
  clear hz
  rw [splice_all EZ.out] at hr
  have hS9 := hS6.setRow 1 rfl hr hg
  clear hS6 hr hg
  go_wp2
  exact bodyPost_ret (v := .tuple #[.agg (c8 zeros32).toArray, .slice none 0 0, .bool false]) (results_rowT3 rfl _ _ w1.heap.size _ _ rfl (hS9.row 1 rfl) Try.underlying26 rfl IZ.out rfl rfl) rfl ⟨rfl, hS9.grown⟩

/-- a slice of which j were taken -/
def slA (A : Option Addr) (c : Nat) : Nat → Option Addr
  | 0 => A
  | j + 1 => if c - j = 1 then slA A c j else (slA A c j).map fun ad => ad.add (1 * 32)
theorem slA_rows {w : World} {A : Option Addr} {c : Nat} {way : Way} (h : Rows32 w A c way) : ∀ j, j ≤ way.length → Rows32 w (slA A c j) (c - j) (way.drop j)
  | 0, _ => by simpa [slA] using h
  | j + 1, hj => by
    have ih := slA_rows h j (by omega)
    have := ih.drop 1 (by simp; omega)
    rw [List.drop_drop, show c - j - 1 = c - (j + 1) by omega] at this
    exact this
def UpPost (A : Option Addr) (c : Nat) (way : Way) (o : Option (List UInt8 × Way)) (e : Ending) : Prop :=
  match o with
  | some (x, r) => e = .returned (.tuple #[.agg (c8 x).toArray, .slice (slA A c (way.length - r.length)) r.length (c - (way.length - r.length)), .bool true])
  | none => e = .returned (.tuple #[.agg (c8 zeros32).toArray, .slice none 0 0, .bool false])
theorem up_any : ∀ (M n i : Nat) (d : List UInt8) (A : Option Addr) (c : Nat) (way : Way) (w0 w : World), n ≤ M → i < n → n ≤ 9223372036854775807 → d.length = 32 → w0.grownBy w none → Rows32 w0 A c way → c ≤ 9223372036854775807 →
    Calls Try.prog 25 #[.int .i64 (n : Int), .int .i64 (i : Int), .agg (c8 d).toArray, .slice A way.length c] w fun e w' => UpPost A c way (upO n i d way) e ∧ w.grownBy w' none := by
  intro M
  induction M with
  | zero => intro n i d A c way w0 w hM hi; omega
  | succ M ih =>
    intro n i d A c way w0 w hM hi hn hd hg hw hc
    rcases Nat.lt_or_ge n 2 with h2 | h2
    · rw [upO_one h2]
      refine (up_few w n i way.length c d A (Lib.hid hd) h2).mono fun e w' h => ⟨?_, h.2⟩
      show e = _
      rw [Nat.sub_self]
      exact h.1
    · have hlt := half_lt h2
      have hp := half_pos n
      have hhalf := fun W => rhalf_any n W h2 hn
      have hz : zeros32.length = 32 := by simp [zeros32]
      by_cases hh : i < half n
      · rw [upO_left h2 hh]
        have hin := fun W (hW : w.grownBy W none) => ih (half n) i d A c way w0 W (by omega) hh (by omega) hd (grownBy_trans hg hW) hw hc
        have hlen := upO_len (half n) (half n) i d way (Nat.le_refl _) hd
        match ho : upO (half n) i d way with
        | none =>
          rw [ho] at hin
          exact up_left_no w n (half n) i way.length c d zeros32 A (Lib.hid hd) (Lib.hid hz) (by omega) (by omega) (by omega) (by omega) (by omega) hh hhalf hin
        | some (x, []) =>
          rw [ho] at hin
          obtain ⟨hx, k, hk, hr⟩ := hlen x [] ho
          exact up_left_empty w n (half n) i way.length c d x A (Lib.hid hd) (Lib.hid hx) (by omega) (by omega) (by omega) (by omega) (by omega) hh _ _ hhalf hin
        | some (x, z :: r) =>
          rw [ho] at hin
          obtain ⟨hx, k, hk, hr⟩ := hlen x (z :: r) ho
          obtain ⟨j, hj⟩ : ∃ j, j = way.length - (z :: r).length := ⟨_, rfl⟩
          have hlr : (z :: r).length = way.length - k := by rw [hr]; simp
          have hjk : j = k := by omega
          have hrows := (slA_rows hw j (by omega)).keep hg
          rw [hjk, ← hr] at hrows
          rw [← hjk] at hrows
          obtain ⟨b, off, hA, hat⟩ := hrows.at_ 0 (by simp)
          have hzl : z.length = 32 := hrows.all z (by simp)
          have hat' : ∀ q u, (c8 z)[q]? = some u → w.cell? ((⟨b, off, none⟩ : Addr).add q) = some u := by simpa using hat
          have hj1 : way.length - r.length = j + 1 := by have : (z :: r).length = r.length + 1 := rfl; have : r.length < way.length := by omega
                                                         omega
          obtain ⟨B2, hB2⟩ : ∃ B2, B2 = slA A c (j + 1) := ⟨_, rfl⟩
          have hfr' : ∀ W, (Instr.slice 22 (.slice (some ⟨b, off, none⟩) (z :: r).length (c - j)) (some (.int .i64 1)) none none).run Try.prog W = .ok (.slice B2 ((z :: r).length - 1) (c - j - 1)) W := fun W => by
            have := run_from32 Try.underlying22 size_a (slA A c j) (z :: r).length (c - j) 1 (by simp) hrows.le W
            rw [hB2]
            rw [hA] at this
            show _ = Result.ok (Value.slice (if c - j = 1 then slA A c j else (slA A c j).map fun ad => ad.add (1 * 32)) _ _) W
            rw [hA]
            exact this
          rw [show UpPost A c way (some (x, z :: r)) = fun e => e = .returned (.tuple #[.agg (c8 x).toArray, .slice (slA A c (way.length - (z :: r).length)) (z :: r).length (c - (way.length - (z :: r).length)), .bool true]) from rfl, ← hj, hA] at hin
          refine (up_left_ok w n (half n) i way.length c d x A (Lib.hid hd) (Lib.hid hx) (by omega) (by omega) (by omega) (by omega) (by omega) hh b off (z :: r).length (c - j) z (nodeL x z) B2 (Lib.hid hzl) (Lib.hid (nodeL_length _ _)) (by simp) (by simp) (Lib.hid hat') hfr' (fun W => rnode_any x z W hx hzl) hhalf hin).mono fun e w' h => ⟨?_, h.2⟩
          show e = _
          rw [h.1, hj1, ← hB2, show (z :: r).length - 1 = r.length by simp, show c - j - 1 = c - (j + 1) by omega]
      · rw [upO_right h2 hh]
        have hin := fun W (hW : w.grownBy W none) => ih (n - half n) (i - half n) d A c way w0 W (by omega) (by omega) (by omega) hd (grownBy_trans hg hW) hw hc
        have hlen := upO_len (n - half n) (n - half n) (i - half n) d way (Nat.le_refl _) hd
        have e1 : ((n - half n : Nat) : Int) = (n : Int) - (half n : Int) := by omega
        have e2 : ((i - half n : Nat) : Int) = (i : Int) - (half n : Int) := by omega
        rw [e1, e2] at hin
        match ho : upO (n - half n) (i - half n) d way with
        | none =>
          rw [ho] at hin
          exact up_right_no w n (half n) i way.length c d zeros32 A (Lib.hid hd) (Lib.hid hz) (by omega) (by omega) (by omega) (by omega) (by omega) hh (by omega) hhalf hin
        | some (x, []) =>
          rw [ho] at hin
          obtain ⟨hx, k, hk, hr⟩ := hlen x [] ho
          exact up_right_empty w n (half n) i way.length c d x A (Lib.hid hd) (Lib.hid hx) (by omega) (by omega) (by omega) (by omega) (by omega) hh (by omega) _ _ hhalf hin
        | some (x, z :: r) =>
          rw [ho] at hin
          obtain ⟨hx, k, hk, hr⟩ := hlen x (z :: r) ho
          obtain ⟨j, hj⟩ : ∃ j, j = way.length - (z :: r).length := ⟨_, rfl⟩
          have hlr : (z :: r).length = way.length - k := by rw [hr]; simp
          have hjk : j = k := by omega
          have hrows := (slA_rows hw j (by omega)).keep hg
          rw [hjk, ← hr] at hrows
          rw [← hjk] at hrows
          obtain ⟨b, off, hA, hat⟩ := hrows.at_ 0 (by simp)
          have hzl : z.length = 32 := hrows.all z (by simp)
          have hat' : ∀ q u, (c8 z)[q]? = some u → w.cell? ((⟨b, off, none⟩ : Addr).add q) = some u := by simpa using hat
          have hj1 : way.length - r.length = j + 1 := by have : (z :: r).length = r.length + 1 := rfl; have : r.length < way.length := by omega
                                                         omega
          obtain ⟨B2, hB2⟩ : ∃ B2, B2 = slA A c (j + 1) := ⟨_, rfl⟩
          have hfr' : ∀ W, (Instr.slice 22 (.slice (some ⟨b, off, none⟩) (z :: r).length (c - j)) (some (.int .i64 1)) none none).run Try.prog W = .ok (.slice B2 ((z :: r).length - 1) (c - j - 1)) W := fun W => by
            have := run_from32 Try.underlying22 size_a (slA A c j) (z :: r).length (c - j) 1 (by simp) hrows.le W
            rw [hB2]
            rw [hA] at this
            show _ = Result.ok (Value.slice (if c - j = 1 then slA A c j else (slA A c j).map fun ad => ad.add (1 * 32)) _ _) W
            rw [hA]
            exact this
          rw [show UpPost A c way (some (x, z :: r)) = fun e => e = .returned (.tuple #[.agg (c8 x).toArray, .slice (slA A c (way.length - (z :: r).length)) (z :: r).length (c - (way.length - (z :: r).length)), .bool true]) from rfl, ← hj, hA] at hin
          refine (up_right_ok w n (half n) i way.length c d x A (Lib.hid hd) (Lib.hid hx) (by omega) (by omega) (by omega) (by omega) (by omega) hh (by omega) b off (z :: r).length (c - j) z (nodeL z x) B2 (Lib.hid hzl) (Lib.hid (nodeL_length _ _)) (by simp) (by simp) (Lib.hid hat') hfr' (fun W => rnode_any z x W hzl hx) hhalf hin).mono fun e w' h => ⟨?_, h.2⟩
          show e = _
          rw [h.1, hj1, ← hB2, show (z :: r).length - 1 = r.length by simp, show c - j - 1 = c - (j + 1) by omega]

set_option maxRecDepth 100000 in
set_option maxHeartbeats 8000000 in
theorem rcheck_core (w : World) (n i m c : Nat) (root d V : List UInt8) (A : Option Addr) (HR : Hid (root.length = 32)) (HD : Hid (d.length = 32)) (HV : Hid (V.length = 32)) (hin : (i : Int) < (n : Int)) (n2 : (n : Int) ≤ 9223372036854775807) (b : Bool) (B : Option Addr) (k e : Nat) (R : Bool)
    (hbk : (b = false ∧ R = false) ∨ (b = true ∧ 0 < k ∧ R = false) ∨ (b = true ∧ k = 0 ∧ R = decide (V = root)))
    (cc : ∀ W, w.grownBy W none → Calls Try.prog 25 #[.int .i64 (n : Int), .int .i64 (i : Int), .agg (c8 d).toArray, .slice A m c] W fun e2 w' => e2 = .returned (.tuple #[.agg (c8 V).toArray, .slice B k e, .bool b]) ∧ W.grownBy w' none)
    (eV : ∀ W : World, (Op.equalIn 10000 26 (.agg (c8 V).toArray) (.agg (c8 root).toArray)).run Try.prog W = .ok (decide (V = root)) W) :
    Calls Try.prog 26 #[.agg (c8 root).toArray, .int .i64 (n : Int), .int .i64 (i : Int), .agg (c8 d).toArray, .slice A m c] w fun e w' => e = .returned (.bool R) ∧ w.grownBy w' none := by
  have IR := Lib.hid (info_a32 root HR.out)
  have ID := Lib.hid (info_a32 d HD.out)
  have IV := Lib.hid (info_a32 V HV.out)
  have FV := Lib.hid (show 0 + (c8 V).length ≤ zd.length by rw [c8_length, HV.out]; decide)
  have EV := Lib.hid (show (c8 V).length = zd.length by rw [c8_length, HV.out]; decide)
  have i0 : (0 : Int) ≤ (i : Int) := by omega
  have t1 : decide ((i : Int) < 0) = false := by simp
  have t2 : decide ((n : Int) ≤ (i : Int)) = false := by simp; omega
  have t3 : decide (n ≤ i) = false := by simp; omega
  obtain ⟨q, hq⟩ : ∃ q, q = decide (V = root) := ⟨_, rfl⟩
  rw [← hq] at eV hbk
  have HB := Lib.hid hbk
  clear hq hbk
  go_enter Try.func26, Try.ntmps26
  go_wp2_with (refine wp_box (o := ⟨some 5, _, _, _, _, _⟩) rfl 26 (.tmp 0) rfl (c8 root) rfl ?_)
  intro w1 hr hg hz
  clear hz
  have hS1 := ((Own.start w)).new hr hg
  clear hr hg
  go_wp2_with (refine wp_box (o := ⟨some 8, _, _, _, _, _⟩) rfl 26 (.tmp 3) rfl (c8 d) rfl ?_)
  intro w2 hr hg hz
  clear hz
  have hS2 := (hS1).new hr hg
  clear hr hg
  clear hS1
  go_wp2_with (first | (refine wp_load rfl 26 (.tmp 8) rfl Try.underlying26 rfl ⟨w1.heap.size, 0, none⟩ rfl (c8 d) ID.out (row_all (hS2.row 0 rfl)) ?_))
  refine (cc _ hS2.grown).mono ?_
  rintro e' w3 ⟨rfl, hg⟩
  have hS3 := hS2.call hg
  clear hg hS2 cc
  go_wp2_with (refine wp_alloc (o := ⟨some 11, _, _, _, _, _⟩) rfl 26 rfl _ alloc_d32 ?_)
  intro w4 hr hg hz
  clear hz
  have hS4 := hS3.new hr hg
  clear hr hg
  go_wp2_with (refine wp_storeAgg rfl 26 (.tmp 11) (.tmp 27) rfl w3.heap.size 0 26 zd (c8 V) rfl rfl (hS4.row 0 rfl) IV.out FV.out (one8 _) ?_)
  intro w5 hr hg hz
  clear hz
  rw [splice_all EV.out] at hr
  have hS5 := hS4.setRow 0 rfl hr hg
  clear hr hg hS4 hS3
  rcases HB.out with ⟨hb, hR⟩ | ⟨hb, hk, hR⟩ | ⟨hb, hk, hR⟩
  · subst hb
    have HRR := Lib.hid hR
    clear hR HB
    go_wp2_with fail
    go_ret
    exact ⟨by rw [HRR.out]; rfl, hS5.grown⟩
  · subst hb
    have HRR := Lib.hid hR
    have k1 : (0 : Int) < (k : Int) := by omega
    have k2 : decide ((k : Int) = 0) = false := by simp; omega
    have k3 : ¬ k = 0 := by omega
    have k4 : ((k : Int) == 0) = false := by simp; omega
    clear hR HB hk
    go_wp2_with fail
    go_ret
    exact ⟨by rw [HRR.out]; rfl, hS5.grown⟩
  · subst hb
    subst hk
    have HRR := Lib.hid hR
    clear hR HB
    go_wp2_with (first | (refine wp_load rfl 26 (.tmp 11) rfl Try.underlying26 rfl ⟨w3.heap.size, 0, none⟩ rfl (c8 V) IV.out (row_all (hS5.row 0 rfl)) ?_) | (refine wp_load rfl 26 (.tmp 5) rfl Try.underlying26 rfl ⟨w.heap.size, 0, none⟩ rfl (c8 root) IR.out (row_all (hS5.row 2 rfl)) ?_))
    go_ret
    exact ⟨by rw [HRR.out]; rfl, hS5.grown⟩
set_option maxRecDepth 100000 in
set_option maxHeartbeats 8000000 in
theorem rcheck_bad (w : World) (n i : Int) (root d : List UInt8) (s : Value) (hi : i < 0 ∨ (0 ≤ i ∧ n ≤ i)) :
    Calls Try.prog 26 #[.agg (c8 root).toArray, .int .i64 n, .int .i64 i, .agg (c8 d).toArray, s] w fun e w' => e = .returned (.bool false) ∧ w.grownBy w' none := by
  rcases hi with hi | ⟨h0, hi⟩
  · have t1 : decide (i < 0) = true := by simp; omega
    go_enter Try.func26, Try.ntmps26
    go_wp2_with (refine wp_box (o := ⟨some 5, _, _, _, _, _⟩) rfl 26 (.tmp 0) rfl (c8 root) rfl ?_)
    intro w1 hr hg hz
    clear hz
    have hS1 := ((Own.start w)).new hr hg
    clear hr hg
    go_wp2_with (refine wp_box (o := ⟨some 8, _, _, _, _, _⟩) rfl 26 (.tmp 3) rfl (c8 d) rfl ?_)
    intro w2 hr hg hz
    clear hz
    have hS2 := (hS1).new hr hg
    clear hr hg
    go_wp2
    go_ret
    exact ⟨rfl, hS2.grown⟩
  · have t1 : decide (i < 0) = false := by simp; omega
    have t2 : decide (n ≤ i) = true := by simp; omega
    go_enter Try.func26, Try.ntmps26
    go_wp2_with (refine wp_box (o := ⟨some 5, _, _, _, _, _⟩) rfl 26 (.tmp 0) rfl (c8 root) rfl ?_)
    intro w1 hr hg hz
    clear hz
    have hS1 := ((Own.start w)).new hr hg
    clear hr hg
    go_wp2_with (refine wp_box (o := ⟨some 8, _, _, _, _, _⟩) rfl 26 (.tmp 3) rfl (c8 d) rfl ?_)
    intro w2 hr hg hz
    clear hz
    have hS2 := (hS1).new hr hg
    clear hr hg
    go_wp2
    go_ret
    exact ⟨rfl, hS2.grown⟩
theorem rcheck_any (n i : Nat) (root d : List UInt8) (A : Option Addr) (c : Nat) (way : Way) (w : World) (hr : root.length = 32) (hd : d.length = 32) (hw : Rows32 w A c way) (hc : c ≤ 9223372036854775807) (hn : n ≤ 9223372036854775807) (hi : i < n) :
    Calls Try.prog 26 #[.agg (c8 root).toArray, .int .i64 (n : Int), .int .i64 (i : Int), .agg (c8 d).toArray, .slice A way.length c] w fun e w' => e = .returned (.bool (checkL root n i d way)) ∧ w.grownBy w' none := by
  have hup := fun W (hg : w.grownBy W none) => up_any n n i d A c way w W (Nat.le_refl _) hi hn hd hg hw hc
  have hlen := upO_len n n i d way (Nat.le_refl _) hd
  unfold checkL
  have hz : zeros32.length = 32 := by simp [zeros32]
  match ho : upO n i d way with
  | none =>
    rw [ho] at hup
    exact rcheck_core w n i way.length c root d zeros32 A (Lib.hid hr) (Lib.hid hd) (Lib.hid hz) (by omega) (by omega) false none 0 0 _ (.inl ⟨rfl, by simp⟩) hup (fun W => eq_a32 W _ _ hz hr)
  | some (x, []) =>
    rw [ho] at hup
    have hx := (hlen x [] ho).1
    refine rcheck_core w n i way.length c root d x A (Lib.hid hr) (Lib.hid hd) (Lib.hid hx) (by omega) (by omega) true _ 0 _ _ (.inr (.inr ⟨rfl, rfl, ?_⟩)) hup (fun W => eq_a32 W _ _ hx hr)
    have e : (some (x, ([] : Way)) = some (root, [])) ↔ x = root := by simp
    exact decide_eq_decide.2 e
  | some (x, z :: r) =>
    rw [ho] at hup
    have hx := (hlen x (z :: r) ho).1
    exact rcheck_core w n i way.length c root d x A (Lib.hid hr) (Lib.hid hd) (Lib.hid hx) (by omega) (by omega) true _ (z :: r).length _ _ (.inr (.inl ⟨rfl, by simp, by simp⟩)) hup (fun W => eq_a32 W _ _ hx hr)
end Go.Proofs.Ytpohjldhbaalbaa
