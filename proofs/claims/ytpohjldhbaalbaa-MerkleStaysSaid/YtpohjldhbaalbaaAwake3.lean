/- The contracts of the exported Path and of chapter 03's awake. -/
import Derived.Test.YtpohjldhbaalbaaPath3
namespace Go.Proofs.Ytpohjldhbaalbaa
set_option linter.unusedVariables false
set_option linter.unusedSimpArgs false
set_option linter.unusedSectionVars false
open Go.RowKit
set_option linter.unusedVariables false

set_option maxRecDepth 100000 in
set_option maxHeartbeats 4000000 in
theorem pathx_ok (A : Option Addr) (c : Nat) (L : List (List UInt8)) (i : Nat) (w : World) (hL : Rows32 w A c L) (hc : c ≤ 9223372036854775807) (hlm : L.length ≤ 4398046510000) (hi : i < L.length) :
    Calls Try.prog 20 #[.slice A L.length c, .int .i64 (i : Int)] w fun e w' => ∃ v, e = .returned (.tuple #[v, .int .i64 0]) ∧ OwnsR w' w.heap.size 27 v (pathL L i) ∧ w.grownBy w' none := by
  have hp := path_any _ A c L i w (Nat.le_refl _) hL hc hlm hi
  have hle := hL.le
  obtain ⟨n, hn⟩ : ∃ n, n = L.length := ⟨_, rfl⟩
  rw [← hn] at hp hi hle hlm ⊢
  have t1 : decide ((i : Int) < 0) = false := by simp
  have t2 : decide ((n : Int) ≤ (i : Int)) = false := by simp; omega
  have t3 : decide (n ≤ i) = false := by simp; omega
  have t4 : (i : Int) < (n : Int) := by omega
  clear hL hc hle hlm hn
  go_enter Try.func20, Try.ntmps20
  go_wp2_with fail
  refine hp.mono ?_
  rintro e w' ⟨v, rfl, ho, hg⟩
  go_wp2
  refine bodyPost_ret (results_tmp2 rfl _ _ _) rfl ?_
  exact ⟨v, rfl, ho, hg⟩
set_option maxRecDepth 100000 in
set_option maxHeartbeats 4000000 in
theorem pathx_bad (A : Option Addr) (c n : Nat) (i : Int) (w : World) (hi : i < 0 ∨ (0 ≤ i ∧ (n : Int) ≤ i)) :
    Calls Try.prog 20 #[.slice A n c, .int .i64 i] w fun e w' => e = .returned (.tuple #[.slice none 0 0, .int .i64 1]) ∧ w.grownBy w' none := by
  have hS := Own.start w
  rcases hi with hi | ⟨h0, hi⟩
  · have t1 : decide (i < 0) = true := by simp; omega
    go_enter Try.func20, Try.ntmps20
    go_wp2
    refine bodyPost_ret (results_tmp2 rfl _ _ _) rfl ?_
    exact ⟨rfl, hS.grown⟩
  · have t1 : decide (i < 0) = false := by simp; omega
    have t2 : decide ((n : Int) ≤ i) = true := by simp; omega
    go_enter Try.func20, Try.ntmps20
    go_wp2
    refine bodyPost_ret (results_tmp2 rfl _ _ _) rfl ?_
    exact ⟨rfl, hS.grown⟩
theorem wp_built3 {P : Program} {w : World} {ops : Array Oper} {rest : List Oper} {o : Oper} {a : Act} {Q : Exit → Act → World → Prop} (hgd : o.guard = none) (t : TypeId) (x y z' : Operand) (ho : o.op = .buildSlice t 3 #[(0, x), (1, y), (2, z')])
    (e : TypeId) (hu : P.underlying t = some (.slice e)) (s : Nat) (hi : (P.info? e).map (fun i => (i.zero.isSome, i.size)) = some (true, s)) (hs : 0 < s) (hs2 : s ≤ 4096) (cs ds es : List Value) (hl : cs.length = s) (hl2 : ds.length = s) (hl3 : es.length = s)
    (hx : a.eval x = .agg cs.toArray) (hy : a.eval y = .agg ds.toArray) (hz' : a.eval z' = .agg es.toArray)
    (h : ∀ w', Row w' w.heap.size e (cs ++ (ds ++ es)) → w.grownBy w' none → wpList P ops Q rest (a.put o.dst (.slice (some ⟨w.heap.size, 0, none⟩) 3 3)) w') : wpList P ops Q (o :: rest) a w := by
  cases hq : P.info? e with
  | none => simp [hq] at hi
  | some i =>
    simp only [hq, Option.map_some, Option.some.injEq, Prod.mk.injEq] at hi
    obtain ⟨z, hz⟩ := Option.isSome_iff_exists.1 hi.1
    have hfill := Go.Great.fill_whole hs [.agg cs.toArray, .agg ds.toArray, .agg es.toArray] ((Array.range (3 * s)).map (z.cells[· % z.cells.size]!))
      (fun v hv => by simp at hv; rcases hv with rfl | rfl | rfl <;> simp [Value.cells, hl, hl2, hl3]) (by simp)
    have e1 : (([Value.agg cs.toArray, .agg ds.toArray, .agg es.toArray] : List Value).flatMap fun v => v.cells.toList).toArray = (cs ++ (ds ++ es)).toArray := by simp [Value.cells]
    rw [e1] at hfill
    refine wpList_buildSlice hgd t e 3 #[(0, x), (1, y), (2, z')] ho (cs ++ (ds ++ es)).toArray i z hu hq hz (by rw [hi.2]; omega) (by rw [hi.2]; omega) (by rw [hi.2]; simpa [hx, hy, hz'] using hfill) ?_
    exact h _ (Row.new w e _) (World.grownBy_alloc _ _ none)
theorem rows_of_row {w : World} {g : Nat} {t : TypeId} {L : List (List UInt8)} (h : Row w g t (c8 L.flatten)) (hL : L32 L) : Rows32 w (some ⟨g, 0, none⟩) L.length L := by
  refine ⟨hL, Nat.le_refl _, (fun h => by cases h), fun h0 => ⟨g, 0, rfl, fun j hj => ?_⟩⟩
  rw [Nat.zero_add, h.cell, c8_get _ j hj]

def e1 : List UInt8 := 1 :: List.replicate 31 0
def e2 : List UInt8 := 2 :: List.replicate 31 0
def e3 : List UInt8 := 3 :: List.replicate 31 0
theorem e1_len : e1.length = 32 := by simp [e1]
theorem e2_len : e2.length = 32 := by simp [e2]
theorem e3_len : e3.length = 32 := by simp [e3]
theorem awake_nil : sha [] ≠ zeros32 := by decide +kernel
theorem half3 : half 3 = 2 := by decide
theorem half2 : half 2 = 1 := by decide
theorem awake_root : rootL [e1, e2, e3] = nodeL (nodeL e1 e2) e3 := by
  rw [rootL_two (by simp), show ([e1, e2, e3] : List (List UInt8)).length = 3 from rfl, half3, show ([e1, e2, e3] : List (List UInt8)).take 2 = [e1, e2] from rfl, show ([e1, e2, e3] : List (List UInt8)).drop 2 = [e3] from rfl, rootL_one,
    rootL_two (by simp), show ([e1, e2] : List (List UInt8)).length = 2 from rfl, half2, show ([e1, e2] : List (List UInt8)).take 1 = [e1] from rfl, show ([e1, e2] : List (List UInt8)).drop 1 = [e2] from rfl, rootL_one, rootL_one]
theorem awake_path : pathL [e1, e2, e3] 2 = [nodeL e1 e2] := by
  rw [pathL_right (by simp) (by rw [show ([e1, e2, e3] : List (List UInt8)).length = 3 from rfl, half3]; omega), show ([e1, e2, e3] : List (List UInt8)).length = 3 from rfl, half3, show ([e1, e2, e3] : List (List UInt8)).take 2 = [e1, e2] from rfl, show ([e1, e2, e3] : List (List UInt8)).drop 2 = [e3] from rfl,
    pathL_few (by simp), rootL_two (by simp), show ([e1, e2] : List (List UInt8)).length = 2 from rfl, half2, show ([e1, e2] : List (List UInt8)).take 1 = [e1] from rfl, show ([e1, e2] : List (List UInt8)).drop 1 = [e2] from rfl, rootL_one, rootL_one]
  rfl

set_option maxRecDepth 100000 in
set_option maxHeartbeats 8000000 in
theorem awake_core (d1 d2 d3 N R D0 : List UInt8) (w : World) (h1 : Hid (d1.length = 32)) (h2 : Hid (d2.length = 32)) (h3 : Hid (d3.length = 32)) (hN : Hid (N.length = 32))
    (z1 : Hid ((c8 d1).toArray = #[Value.int .u8 1, Value.int .u8 0, Value.int .u8 0, Value.int .u8 0, Value.int .u8 0, Value.int .u8 0, Value.int .u8 0, Value.int .u8 0, Value.int .u8 0, Value.int .u8 0, Value.int .u8 0, Value.int .u8 0, Value.int .u8 0, Value.int .u8 0, Value.int .u8 0, Value.int .u8 0, Value.int .u8 0, Value.int .u8 0, Value.int .u8 0, Value.int .u8 0, Value.int .u8 0, Value.int .u8 0, Value.int .u8 0, Value.int .u8 0, Value.int .u8 0, Value.int .u8 0, Value.int .u8 0, Value.int .u8 0, Value.int .u8 0, Value.int .u8 0, Value.int .u8 0, Value.int .u8 0])) (z2 : Hid ((c8 d2).toArray = #[Value.int .u8 2, Value.int .u8 0, Value.int .u8 0, Value.int .u8 0, Value.int .u8 0, Value.int .u8 0, Value.int .u8 0, Value.int .u8 0, Value.int .u8 0, Value.int .u8 0, Value.int .u8 0, Value.int .u8 0, Value.int .u8 0, Value.int .u8 0, Value.int .u8 0, Value.int .u8 0, Value.int .u8 0, Value.int .u8 0, Value.int .u8 0, Value.int .u8 0, Value.int .u8 0, Value.int .u8 0, Value.int .u8 0, Value.int .u8 0, Value.int .u8 0, Value.int .u8 0, Value.int .u8 0, Value.int .u8 0, Value.int .u8 0, Value.int .u8 0, Value.int .u8 0, Value.int .u8 0])) (z3 : Hid ((c8 d3).toArray = #[Value.int .u8 3, Value.int .u8 0, Value.int .u8 0, Value.int .u8 0, Value.int .u8 0, Value.int .u8 0, Value.int .u8 0, Value.int .u8 0, Value.int .u8 0, Value.int .u8 0, Value.int .u8 0, Value.int .u8 0, Value.int .u8 0, Value.int .u8 0, Value.int .u8 0, Value.int .u8 0, Value.int .u8 0, Value.int .u8 0, Value.int .u8 0, Value.int .u8 0, Value.int .u8 0, Value.int .u8 0, Value.int .u8 0, Value.int .u8 0, Value.int .u8 0, Value.int .u8 0, Value.int .u8 0, Value.int .u8 0, Value.int .u8 0, Value.int .u8 0, Value.int .u8 0, Value.int .u8 0]))
    (cp : ∀ W g, Row W g 27 (c8 d1 ++ (c8 d2 ++ c8 d3)) → Calls Try.prog 20 #[.slice (some ⟨g, 0, none⟩) 3 3, .int .i64 2] W fun e w' => ∃ v, e = .returned (.tuple #[v, .int .i64 0]) ∧ OwnsR w' W.heap.size 27 v [N] ∧ W.grownBy w' none)
    (cr : ∀ W g, Row W g 27 (c8 d1 ++ (c8 d2 ++ c8 d3)) → Calls Try.prog 17 #[.slice (some ⟨g, 0, none⟩) 3 3] W fun e w' => e = .returned (.agg (c8 R).toArray) ∧ W.grownBy w' none)
    (cz : ∀ W, Calls Try.prog 17 #[.slice none 0 0] W fun e w' => e = .returned (.agg (c8 D0).toArray) ∧ W.grownBy w' none)
    (cn : ∀ W, Calls Try.prog 43 #[.agg (c8 d1).toArray, .agg (c8 d2).toArray] W fun e w' => e = .returned (.agg (c8 N).toArray) ∧ W.grownBy w' none)
    (cm : ∀ W, Calls Try.prog 43 #[.agg (c8 N).toArray, .agg (c8 d3).toArray] W fun e w' => e = .returned (.agg (c8 R).toArray) ∧ W.grownBy w' none)
    (heR : ∀ W : World, (Op.equalIn 10000 27 (.agg (c8 R).toArray) (.agg (c8 R).toArray)).run Try.prog W = .ok true W)
    (heN : ∀ W : World, (Op.equalIn 10000 27 (.agg (c8 N).toArray) (.agg (c8 N).toArray)).run Try.prog W = .ok true W)
    (hne : ∀ W : World, (Op.equalIn 10000 27 (.agg (c8 D0).toArray) (.agg (c8 zeros32).toArray)).run Try.prog W = .ok false W) :
    Calls Try.prog 14 #[] w fun e w' => e = .returned (.bool true) ∧ w.grownBy w' none := by
  have hne' : ∀ W : World, (Op.equalIn 10000 27 (.agg (c8 D0).toArray) (.agg #[Value.int .u8 0, Value.int .u8 0, Value.int .u8 0, Value.int .u8 0, Value.int .u8 0, Value.int .u8 0, Value.int .u8 0, Value.int .u8 0, Value.int .u8 0, Value.int .u8 0, Value.int .u8 0, Value.int .u8 0, Value.int .u8 0, Value.int .u8 0, Value.int .u8 0, Value.int .u8 0, Value.int .u8 0, Value.int .u8 0, Value.int .u8 0, Value.int .u8 0, Value.int .u8 0, Value.int .u8 0, Value.int .u8 0, Value.int .u8 0, Value.int .u8 0, Value.int .u8 0, Value.int .u8 0, Value.int .u8 0, Value.int .u8 0, Value.int .u8 0, Value.int .u8 0, Value.int .u8 0])).run Try.prog W = .ok false W := hne
  clear hne
  have I1 := Lib.hid (info_dg d1 h1.out)
  have I2 := Lib.hid (info_dg d2 h2.out)
  have I3 := Lib.hid (info_dg d3 h3.out)
  have IN := Lib.hid (info_dg N hN.out)
  have F1 := Lib.hid (show 0 + (c8 d1).length ≤ zd.length by rw [c8_length, h1.out]; decide)
  have F2 := Lib.hid (show 0 + (c8 d2).length ≤ zd.length by rw [c8_length, h2.out]; decide)
  have F3 := Lib.hid (show 0 + (c8 d3).length ≤ zd.length by rw [c8_length, h3.out]; decide)
  have E1 := Lib.hid (show (c8 d1).length = zd.length by rw [c8_length, h1.out]; decide)
  have E2 := Lib.hid (show (c8 d2).length = zd.length by rw [c8_length, h2.out]; decide)
  have E3 := Lib.hid (show (c8 d3).length = zd.length by rw [c8_length, h3.out]; decide)
  go_enter Try.func14, Try.ntmps14
  go_wp2_with (refine wp_alloc (o := ⟨some 1, _, _, _, _, _⟩) rfl 27 rfl _ alloc_d ?_)
  intro w1 hr hg hz
  clear hz
  have hS1 := (Own.start w).new hr hg
  clear hr hg
  go_wp2_with (refine wp_alloc (o := ⟨some 2, _, _, _, _, _⟩) rfl 27 rfl _ alloc_d ?_)
  intro w2 hr hg hz
  clear hz
  have hS2 := hS1.new hr hg
  clear hr hg
  go_wp2_with (refine wp_alloc (o := ⟨some 3, _, _, _, _, _⟩) rfl 27 rfl _ alloc_d ?_)
  intro w3 hr hg hz
  clear hz
  have hS3 := hS2.new hr hg
  clear hr hg
  clear hS1 hS2
  go_wp2_with (refine wp_storeAgg rfl 27 (.tmp 1) (.tmp 7) rfl w.heap.size 0 27 zd (c8 d1) rfl (by rw [z1.out]; rfl) (hS3.row 2 rfl) I1.out F1.out (one8 _) ?_)
  intro w4 hr hg hz
  clear hz
  rw [splice_all E1.out] at hr
  have hS4 := hS3.setRow 2 rfl hr hg
  clear hr hg hS3
  go_wp2_with (refine wp_storeAgg rfl 27 (.tmp 2) (.tmp 8) rfl w1.heap.size 0 27 zd (c8 d2) rfl (by rw [z2.out]; rfl) (hS4.row 1 rfl) I2.out F2.out (one8 _) ?_)
  intro w5 hr hg hz
  clear hz
  rw [splice_all E2.out] at hr
  have hS5 := hS4.setRow 1 rfl hr hg
  clear hr hg hS4
  go_wp2_with (refine wp_storeAgg rfl 27 (.tmp 3) (.tmp 9) rfl w2.heap.size 0 27 zd (c8 d3) rfl (by rw [z3.out]; rfl) (hS5.row 0 rfl) I3.out F3.out (one8 _) ?_)
  intro w6 hr hg hz
  clear hz
  rw [splice_all E3.out] at hr
  have hS6 := hS5.setRow 0 rfl hr hg
  clear hr hg hS5
  go_wp2_with (first | (refine wp_load rfl 27 (.tmp 1) rfl Try.underlying27 rfl ⟨w.heap.size, 0, none⟩ rfl (c8 d1) I1.out (row_all (hS6.row 2 rfl)) ?_) | (refine wp_load rfl 27 (.tmp 2) rfl Try.underlying27 rfl ⟨w1.heap.size, 0, none⟩ rfl (c8 d2) I2.out (row_all (hS6.row 1 rfl)) ?_) | (refine wp_load rfl 27 (.tmp 3) rfl Try.underlying27 rfl ⟨w2.heap.size, 0, none⟩ rfl (c8 d3) I3.out (row_all (hS6.row 0 rfl)) ?_) | (refine wp_built3 rfl 31 (.tmp 10) (.tmp 11) (.tmp 12) rfl 27 Try.underlying31 32 info_zd (by omega) (by omega) (c8 d1) (c8 d2) (c8 d3) (by rw [c8_length]; exact h1.out) (by rw [c8_length]; exact h2.out) (by rw [c8_length]; exact h3.out) rfl rfl rfl ?_))
  intro w7 hr hg
  have hS7 := hS6.new hr hg
  clear hr hg hS6
  go_wp2_with fail
  refine (cp _ _ (hS7.row 0 rfl)).mono ?_
  rintro e w8 ⟨v, rfl, ho, hg⟩
  have hS8 := hS7.call hg
  obtain ⟨AP, cpp, rfl, hpr, _⟩ := ownsR_open ho
  obtain ⟨b, off, rfl, hat⟩ := hpr.at_ 0 (by simp)
  clear hg hS7 cp ho hpr
  have HG := Lib.hid hS8.grown
  have HR1 := Lib.hid (row_all (hS8.row 3 rfl))
  have HR2 := Lib.hid (row_all (hS8.row 2 rfl))
  have HR3 := Lib.hid (row_all (hS8.row 1 rfl))
  have HRL := Lib.hid (show ∀ W, w8.grownBy W none → Row W w6.heap.size 27 (c8 d1 ++ (c8 d2 ++ c8 d3)) from fun W hg => (hS8.row 0 rfl).grown hg (by simp))
  have HAT := Lib.hid (show ∀ j u, (c8 N)[j]? = some u → w8.cell? ((⟨b, off, none⟩ : Addr).add j) = some u by simpa using hat)
  clear hat hS8
  have hR := Own.start w8
  go_wp2
  have hR1 := hR.drew
  clear hR
  refine wp_region_mixC (fun W => Own w8 W _) (fun _ => true) [(0, true), (2, true), (3, true), (5, true), (1, false), (4, false), (6, false), (7, true), (8, true), (9, true), (10, true), (11, true), (12, true), (13, true), (14, true), (15, true), (16, true), (17, true), (18, true), (19, true), (20, true), (21, true), (22, true), (23, false), (24, true), (25, true), (26, true), (28, true), (27, false), (29, true), (30, true), (31, false)] (by kernel_rfl) (by kernel_rfl) hR1 ?_
  iterate 1 (refine wpMix_step rfl (fun K hK => ?_); go_simp; (try go_bits); with_reducible refine hK _ ?_; clear hK K)
  refine wpMix_pureW (.agg (c8 d1).toArray) rfl rfl (fun W hW => run_load_op 27 (.tmp 1) rfl Try.underlying27 rfl ⟨w.heap.size, 0, none⟩ rfl _ I1.out (fun j u hu => hW.cell (HR1.out j u hu))) ?_
  refine wpMix_pureW (.agg (c8 d2).toArray) rfl rfl (fun W hW => run_load_op 27 (.tmp 2) rfl Try.underlying27 rfl ⟨w1.heap.size, 0, none⟩ rfl _ I2.out (fun j u hu => hW.cell (HR2.out j u hu))) ?_
  refine wpMix_pureW (.agg (c8 d3).toArray) rfl rfl (fun W hW => run_load_op 27 (.tmp 3) rfl Try.underlying27 rfl ⟨w2.heap.size, 0, none⟩ rfl _ I3.out (fun j u hu => hW.cell (HR3.out j u hu))) ?_
  refine wpMix_loudW _ rfl rfl ?_
  go_wp2_with fail
  refine (cr _ _ (HRL.out _ hR1.grown)).mono ?_
  rintro e wA ⟨rfl, hg⟩
  have hR2 := hR1.call hg
  clear hg hR1
  go_wp2_with fail
  refine wpMix_next' (fun _ => hR2) ?_
  refine wpMix_loudW _ rfl rfl ?_
  go_wp2_with fail
  refine (cn _).mono ?_
  rintro e wB ⟨rfl, hg⟩
  have hR3 := hR2.call hg
  clear hg hR2
  go_wp2_with fail
  refine wpMix_next' (fun _ => hR3) ?_
  refine wpMix_loudW _ rfl rfl ?_
  go_wp2_with fail
  refine (cm _).mono ?_
  rintro e wC ⟨rfl, hg⟩
  have hR4 := hR3.call hg
  clear hg hR3
  go_wp2_with fail
  refine wpMix_next' (fun _ => hR4) ?_
  iterate 13 (refine wpMix_step rfl (fun K hK => ?_); go_simp; (try go_bits); with_reducible refine hK _ ?_; clear hK K)
  refine wpMix_pureW (.agg (c8 N).toArray) rfl rfl (fun W hW => run_load_op 27 (.tmp 38) rfl Try.underlying27 rfl ⟨b, off, none⟩ rfl _ IN.out (fun j u hu => hW.cell (HAT.out j u hu))) ?_
  refine wpMix_pureW (.agg (c8 d1).toArray) rfl rfl (fun W hW => run_load_op 27 (.tmp 1) rfl Try.underlying27 rfl ⟨w.heap.size, 0, none⟩ rfl _ I1.out (fun j u hu => hW.cell (HR1.out j u hu))) ?_
  refine wpMix_pureW (.agg (c8 d2).toArray) rfl rfl (fun W hW => run_load_op 27 (.tmp 2) rfl Try.underlying27 rfl ⟨w1.heap.size, 0, none⟩ rfl _ I2.out (fun j u hu => hW.cell (HR2.out j u hu))) ?_
  refine wpMix_loudW _ rfl rfl ?_
  go_wp2_with fail
  refine (cn _).mono ?_
  rintro e wD ⟨rfl, hg⟩
  have hR5 := hR4.call hg
  clear hg hR4
  go_wp2_with fail
  refine wpMix_next' (fun _ => hR5) ?_
  iterate 4 (refine wpMix_step rfl (fun K hK => ?_); go_simp; (try go_bits); with_reducible refine hK _ ?_; clear hK K)
  refine wpMix_loudW _ rfl rfl ?_
  go_wp2_with fail
  refine (cz _).mono ?_
  rintro e wE ⟨rfl, hg⟩
  have hR6 := hR5.call hg
  clear hg hR5
  go_wp2_with fail
  refine wpMix_next' (fun _ => hR6) ?_
  iterate 2 (refine wpMix_step rfl (fun K hK => ?_); go_simp; (try go_bits); with_reducible refine hK _ ?_; clear hK K)
  refine wpMix_loudW _ rfl rfl ?_
  go_wp2_with fail
  refine wpMix_next' (fun _ => hR6) ?_
  unfold wpMix
  go_wp2
  go_ret
  exact ⟨rfl, grownBy_trans HG.out hR6.grown⟩
theorem awake_any (w : World) : Calls Try.prog 14 #[] w fun e w' => e = .returned (.bool true) ∧ w.grownBy w' none := by
  have hL : L32 [e1, e2, e3] := fun x hx => by simp at hx; rcases hx with rfl | rfl | rfl; exact e1_len; exact e2_len; exact e3_len
  have hfl : c8 ([e1, e2, e3] : List (List UInt8)).flatten = c8 e1 ++ (c8 e2 ++ c8 e3) := by simp [c8]
  have hrow : ∀ W g, Row W g 27 (c8 e1 ++ (c8 e2 ++ c8 e3)) → Rows32 W (some ⟨g, 0, none⟩) 3 [e1, e2, e3] := fun W g h => rows_of_row (L := [e1, e2, e3]) (by rw [hfl]; exact h) hL
  have hNl := nodeL_length e1 e2
  have hRl := nodeL_length (nodeL e1 e2) e3
  have h0l := sha_length []
  refine awake_core e1 e2 e3 (nodeL e1 e2) (nodeL (nodeL e1 e2) e3) (sha []) w (Lib.hid e1_len) (Lib.hid e2_len) (Lib.hid e3_len) (Lib.hid hNl) (Lib.hid rfl) (Lib.hid rfl) (Lib.hid rfl) (fun W g h => ?_) (fun W g h => ?_) (fun W => ?_) (fun W => node_any _ _ W e1_len e2_len) (fun W => node_any _ _ W hNl e3_len) (fun W => ?_) (fun W => ?_) (fun W => ?_)
  · have := pathx_ok (some ⟨g, 0, none⟩) 3 [e1, e2, e3] 2 W (hrow W g h) (by omega) (by simp) (by simp)
    rw [awake_path] at this
    exact this
  · have := root_any 3 (some ⟨g, 0, none⟩) 3 [e1, e2, e3] W (by simp) (hrow W g h) (by omega)
    rw [awake_root] at this
    exact this
  · have := root_empty none 0 W
    rw [rootL_nil] at this
    exact this
  · rw [eq_dg W _ _ hRl hRl, decide_eq_true rfl]
  · rw [eq_dg W _ _ hNl hNl, decide_eq_true rfl]
  · rw [eq_dg W _ _ h0l (by simp [zeros32]), decide_eq_false awake_nil]
end Go.Proofs.Ytpohjldhbaalbaa
