/- The walk of the law MerkleChecks. -/
import Derived.Test.YtpohjldhbaalbaaUp3
import Derived.Test.YtpohjldhbaalbaaMerklePaths
import Derived.Test.YtpohjldhbaalbaaWf
namespace Go.Proofs.Ytpohjldhbaalbaa
set_option linter.unusedVariables false
set_option linter.unusedSimpArgs false
set_option linter.unusedSectionVars false
open Go.RowKit
set_option linter.unusedVariables false

theorem wp_built2 {P : Program} {w : World} {ops : Array Oper} {rest : List Oper} {o : Oper} {a : Act} {Q : Exit → Act → World → Prop} (hgd : o.guard = none) (t : TypeId) (x y : Operand) (ho : o.op = .buildSlice t 2 #[(0, x), (1, y)])
    (e : TypeId) (hu : P.underlying t = some (.slice e)) (s : Nat) (hi : (P.info? e).map (fun i => (i.zero.isSome, i.size)) = some (true, s)) (hs : 0 < s) (hs2 : s ≤ 4096) (cs ds : List Value) (hl : cs.length = s) (hl2 : ds.length = s)
    (hx : a.eval x = .agg cs.toArray) (hy : a.eval y = .agg ds.toArray)
    (h : ∀ w', Row w' w.heap.size e (cs ++ ds) → w.grownBy w' none → wpList P ops Q rest (a.put o.dst (.slice (some ⟨w.heap.size, 0, none⟩) 2 2)) w') : wpList P ops Q (o :: rest) a w := by
  cases hq : P.info? e with
  | none => simp [hq] at hi
  | some i =>
    simp only [hq, Option.map_some, Option.some.injEq, Prod.mk.injEq] at hi
    obtain ⟨z, hz⟩ := Option.isSome_iff_exists.1 hi.1
    have hfill := Go.Great.fill_whole hs [.agg cs.toArray, .agg ds.toArray] ((Array.range (2 * s)).map (z.cells[· % z.cells.size]!))
      (fun v hv => by simp at hv; rcases hv with rfl | rfl <;> simp [Value.cells, hl, hl2]) (by simp)
    have e1 : (([Value.agg cs.toArray, .agg ds.toArray] : List Value).flatMap fun v => v.cells.toList).toArray = (cs ++ ds).toArray := by simp [Value.cells]
    rw [e1] at hfill
    refine wpList_buildSlice hgd t e 2 #[(0, x), (1, y)] ho (cs ++ ds).toArray i z hu hq hz (by rw [hi.2]; omega) (by rw [hi.2]; omega) (by rw [hi.2]; simpa [hx, hy] using hfill) ?_
    exact h _ (Row.new w e _) (World.grownBy_alloc _ _ none)

set_option maxRecDepth 100000 in
set_option maxHeartbeats 40000000 in
theorem checks_core (w : World) (root x V : List UInt8) (n i n1 : Int) (N I m q : Nat) (A : Option Addr) (l c : Nat) (Q W1 : Way) (ok : Bool) (K : List UInt8 → Bool) (HR : Hid (root.length = 32)) (HX : Hid (x.length = 32)) (HV : Hid (V.length = 32)) (HQL : Hid (Q.length = q)) (HQ : Hid (Q = x :: W1)) (HQ70 : (q : Int) ≤ 70) (HQ1 : Hid (q = m + 1))
    (hmax : max n 1 = (N : Int)) (hsub : wrap64 (n - 1) = n1) (hmm : max 0 (min i n1) = (I : Int)) (a0 : -9223372036854775808 ≤ n) (a1 : n ≤ 9223372036854775807) (b0 : -9223372036854775808 ≤ i) (b1 : i ≤ 9223372036854775807) (b2 : -9223372036854775808 ≤ n1) (b3 : n1 ≤ 9223372036854775807)
    (kcut : (l = 0 → ∀ W g, w.grownBy W none → Row W g 26 (c8 zeros32) → Calls Try.prog 13 #[.slice (some ⟨g, 0, none⟩) 1 1, .int .i64 70] W fun e w' => ∃ v, e = .returned v ∧ OwnsR w' W.heap.size 26 v Q ∧ W.grownBy w' none) ∧
      (0 < l → ∀ W, w.grownBy W none → Calls Try.prog 13 #[.slice A l c, .int .i64 70] W fun e w' => ∃ v, e = .returned v ∧ OwnsR w' W.heap.size 26 v Q ∧ W.grownBy w' none))
    (cu : ∀ A c W, Rows32 W A c W1 → c ≤ 9223372036854775807 → Calls Try.prog 25 #[.int .i64 (N : Int), .int .i64 (I : Int), .agg (c8 x).toArray, .slice A m c] W fun e w' => ∃ B k d, e = .returned (.tuple #[.agg (c8 V).toArray, .slice B k d, .bool ok]) ∧ W.grownBy w' none)
    (k2 : ∀ A c W, Rows32 W A c W1 → c ≤ 9223372036854775807 → Calls Try.prog 18 #[.slice A m c] W fun e w' => ∃ v, e = .returned v ∧ OwnsR w' W.heap.size 27 v W1 ∧ W.grownBy w' none)
    (kc : ∀ r A c W, r.length = 32 → Rows32 W A c W1 → c ≤ 9223372036854775807 → Calls Try.prog 24 #[.agg (c8 r).toArray, .int .i64 n, .int .i64 i, .agg (c8 x).toArray, .slice A m c] W fun e w' => e = .returned (.bool (K r)) ∧ W.grownBy w' none)
    (kr : ∀ r A c W, r.length = 32 → Rows32 W A c W1 → c ≤ 9223372036854775807 → Calls Try.prog 26 #[.agg (c8 r).toArray, .int .i64 n, .int .i64 i, .agg (c8 x).toArray, .slice A m c] W fun e w' => e = .returned (.bool (K r)) ∧ W.grownBy w' none)
    (HOK : Hid (ok = false → K root = false)) :
    Calls Try.prog 5 #[.agg (c8 root).toArray, .int .i64 n, .int .i64 i, .slice A l c] w fun e w' => e = .returned (.bool true) ∧ w.grownBy w' none := by
  have IR := Lib.hid (info_a32 root HR.out)
  have IX := Lib.hid (info_a32 x HX.out)
  have IV := Lib.hid (info_a32 V HV.out)
  have FX := Lib.hid (show 0 + (c8 x).length ≤ zd.length by rw [c8_length, HX.out]; decide)
  have EX := Lib.hid (show (c8 x).length = zd.length by rw [c8_length, HX.out]; decide)
  have FV := Lib.hid (show 0 + (c8 V).length ≤ zd.length by rw [c8_length, HV.out]; decide)
  have EV := Lib.hid (show (c8 V).length = zd.length by rw [c8_length, HV.out]; decide)
  have q0 : (0 : Int) < (q : Int) := by have := HQ1.out; omega
  have q0' : 0 < q := by have := HQ1.out; omega
  have hz := Lib.hid (show zeros32.length = 32 by simp [zeros32])
  go_enter Try.func5, Try.ntmps5
  go_wp2_with (refine wp_box (o := ⟨some 4, _, _, _, _, _⟩) rfl 26 (.tmp 0) rfl (c8 root) rfl ?_)
  intro w1 hr hg hz
  clear hz
  have hS1 := ((Own.start w)).new hr hg
  clear hr hg
  by_cases hl : l = 0
  · have kc0 := kcut.1 hl
    subst hl
    go_wp2_with (refine wp_built1 rfl 22 (.tmp 18) rfl 26 Try.underlying22 32 info_za (by omega) (by omega) (c8 zeros32) (by rw [c8_length]; exact hz.out) (by rw [z32lit]; rfl) ?_)
    intro wz hr hg
    have hSz := hS1.new hr hg
    clear hr hg hS1
    go_wp2_with fail
    refine (kc0 _ _ hSz.grown (hSz.row 0 rfl)).mono ?_
    rintro e w2 ⟨v, rfl, ho, hg⟩
    have hS2 := (hSz.call hg).tail
    clear hg hSz kc0
    obtain ⟨A1, c1, rfl, hR, hc1⟩ := ownsR_at ho HQL.out
    clear ho kcut
    rw [HQ.out] at hR
    obtain ⟨b, off, rfl, hat⟩ := hR.at_ 0 (by simp)
    have hdr := hR.drop 1 (by simp)
    have hle := hR.le
    obtain ⟨B2, hB2⟩ : ∃ B2, B2 = (if c1 = 1 then (some ⟨b, off, none⟩ : Option Addr) else (some ⟨b, off, none⟩ : Option Addr).map fun ad => ad.add (1 * 32)) := ⟨_, rfl⟩
    have hfr := fun W => run_from32 Try.underlying22 size_a (some ⟨b, off, none⟩) q c1 1 (by omega) (by have := HQL.out; have := HQ.out; rw [← HQL.out, HQ.out]; exact hle) W
    rw [← hB2] at hdr hfr
    have hm : q - 1 = m := by have := HQ1.out; omega
    have hfr' : ∀ W, (Instr.slice 22 (.slice (some ⟨b, off, none⟩) q c1) (some (.int .i64 1)) none none).run Try.prog W = .ok (.slice B2 m (c1 - 1)) W := fun W => by rw [← hm]; exact hfr W
    have HDR := Lib.hid (show Rows32 w2 B2 (c1 - 1) W1 from hdr)
    have HC1 := Lib.hid (show c1 - 1 ≤ 9223372036854775807 by omega)
    have HAT := Lib.hid (show ∀ j u, (c8 x)[j]? = some u → w2.cell? ((⟨b, off, none⟩ : Addr).add j) = some u by simpa using hat)
    clear hR hat hdr hle hB2 hfr hm hc1
    have HG2 := Lib.hid hS2.grown
    have HRT := Lib.hid (row_all (hS2.row 0 rfl))
    clear hS2
    have hT := Own.start w2
    go_wp2
    have hT1 := hT.drew
    clear hT
    refine wp_region_mixC (fun W => Own w2 W []) (fun _ => true) [(0, true), (1, true), (2, true), (3, true), (4, true), (5, false), (6, false), (7, false)] (by kernel_rfl) (by kernel_rfl) hT1 ?_
    iterate 2 (refine wpMix_step rfl (fun K hK => ?_); go_simp; (try go_bits); with_reducible refine hK _ ?_; clear hK K)
    refine wpMix_pureW (.agg (c8 x).toArray) rfl rfl (fun W hW => run_load_op 26 (.tmp 23) rfl Try.underlying26 rfl ⟨b, off, none⟩ rfl _ IX.out (fun j u hu => hW.cell (HAT.out j u hu))) ?_
    iterate 2 (refine wpMix_step rfl (fun K hK => ?_); go_simp; (try go_bits); with_reducible refine hK _ ?_; clear hK K)
    refine wpMix_loudW _ rfl rfl ?_
    go_wp2_with (refine wp_alloc (o := ⟨some 9, _, _, _, _, _⟩) rfl 26 rfl _ alloc_d32 ?_)
    intro w3 hr hg hz'
    clear hz'
    have hT2 := hT1.new hr hg
    clear hr hg hT1
    go_wp2_with fail
    refine wpMix_next' (fun _ => hT2.tail) ?_
    refine wpMix_loudW _ rfl rfl ?_
    go_wp2_with (refine wp_storeAgg rfl 26 (.tmp 9) (.tmp 24) rfl w2.heap.size 0 26 zd (c8 x) rfl rfl (hT2.row 0 rfl) IX.out FX.out (one8 _) ?_)
    intro w4 hr hg hz'
    clear hz'
    rw [splice_all EX.out] at hr
    have hT3 := hT2.setRow 0 rfl hr hg
    clear hr hg hT2
    go_wp2_with fail
    refine wpMix_next' (fun _ => hT3.tail) ?_
    refine wpMix_loudW _ rfl rfl ?_
    go_wp2_with fail
    refine wpMix_next' (fun _ => hT3.tail) ?_
    unfold wpMix
    go_wp2_with (first | (refine wp_load rfl 26 (.tmp 9) rfl Try.underlying26 rfl ⟨w2.heap.size, 0, none⟩ rfl (c8 x) IX.out (row_all (hT3.row 0 rfl)) ?_))
    refine (cu _ _ _ (HDR.out.keep hT3.grown) HC1.out).mono ?_
    rintro e w5 ⟨BU, ku, du, rfl, hg⟩
    have hT4 := hT3.call hg
    clear hg hT3 cu
    go_wp2_with (refine wp_alloc (o := ⟨some 10, _, _, _, _, _⟩) rfl 26 rfl _ alloc_d32 ?_)
    intro w6 hr hg hz
    clear hz
    have hT6 := hT4.new hr hg
    clear hr hg
    go_wp2_with (refine wp_storeAgg rfl 26 (.tmp 10) (.tmp 38) rfl w5.heap.size 0 26 zd (c8 V) rfl rfl (hT6.row 0 rfl) IV.out FV.out (one8 _) ?_)
    intro w7 hr hg hz'
    clear hz'
    rw [splice_all EV.out] at hr
    have hT7 := hT6.setRow 0 rfl hr hg
    clear hr hg hT6 hT4
    go_wp2_with (first | (refine wp_load rfl 26 (.tmp 4) rfl Try.underlying26 rfl ⟨w.heap.size, 0, none⟩ rfl (c8 root) IR.out (fun j u hu => hT7.cell (HRT.out j u hu)) ?_) | (refine wp_load rfl 26 (.tmp 10) rfl Try.underlying26 rfl ⟨w5.heap.size, 0, none⟩ rfl (c8 V) IV.out (row_all (hT7.row 0 rfl)) ?_) | (refine wp_built2 rfl 22 (.tmp 41) (.tmp 42) rfl 26 Try.underlying22 32 info_za (by omega) (by omega) (c8 root) (c8 V) (by rw [c8_length]; exact HR.out) (by rw [c8_length]; exact HV.out) rfl rfl ?_))
    intro w8 hr hg
    have hT8 := hT7.new hr hg
    clear hr hg hT7
    have HRT8 := Lib.hid (show ∀ j u, (c8 root)[j]? = some u → w8.cell? ((⟨w.heap.size, 0, none⟩ : Addr).add j) = some u from fun j u hu => hT8.cell (HRT.out j u hu))
    have HX8 := Lib.hid (row_all (hT8.row 2 rfl))
    have HD8 := Lib.hid (HDR.out.keep hT8.grown)
    have HRR := Lib.hid (rows_of_row (L := [root, V]) (by rw [show c8 ([root, V] : List (List UInt8)).flatten = c8 root ++ c8 V by simp [c8]]; exact hT8.row 0 rfl) (fun y hy => by simp at hy; rcases hy with rfl | rfl; exact HR.out; exact HV.out))
    have HG8 := Lib.hid (grownBy_trans HG2.out hT8.grown)
    clear HRT HDR HAT HG2 hT8
    have hU := Own.start w8
    go_wp2
    go_loopw [45] (fun iv wr => ∃ k : Nat, k ≤ 2 ∧ iv = .int .i64 (k : Int) ∧ Own w8 wr []) (fun iv _ => 2 - (intOf iv).toNat)
    case atStart => exact ⟨0, by omega, rfl, hU⟩
    case round =>
      clear hU
      obtain ⟨k, hk, rfl, hS⟩ := hrel
      by_cases hlt : k < 2
      · have p1 : (k : Int) < 2 := by omega
        obtain ⟨b', off', hA', hat'⟩ := (HRR.out.keep hS.grown).at_ k hlt
        injection hA' with hA'
        injection hA' with hb' ho' _
        subst hb'
        subst ho'
        have hyl := HRR.out.all.at_ k hlt
        obtain ⟨y, hy⟩ : ∃ y, y = ([root, V] : List (List UInt8)).getD k [] := ⟨_, rfl⟩
        rw [← hy] at hat' hyl
        have HYL := Lib.hid hyl
        have IY := Lib.hid (info_a32 y hyl)
        have FY := Lib.hid (show 0 + (c8 y).length ≤ zd.length by rw [c8_length, hyl]; decide)
        have EY := Lib.hid (show (c8 y).length = zd.length by rw [c8_length, hyl]; decide)
        have HAY := Lib.hid (show ∀ j u, (c8 y)[j]? = some u → wr.cell? ((⟨w7.heap.size, k * 32, none⟩ : Addr).add j) = some u by intro j u hu; have := hat' j u hu; rwa [Nat.zero_add] at this)
        have HK := Lib.hid (show k < 2 from hlt)
        clear hat' hy hyl hlt hk
        go_wp2_with (first | (refine wp_load rfl 26 (.tmp 47) rfl Try.underlying26 rfl ⟨w7.heap.size, k * 32, none⟩ rfl (c8 y) IY.out HAY.out ?_) | (refine wp_alloc (o := ⟨some 14, _, _, _, _, _⟩) rfl 26 rfl _ alloc_d32 ?_))
        intro w9 hr hg hz'
        clear hz'
        have hS9 := hS.new hr hg
        clear hr hg hS
        go_wp2_with (refine wp_storeAgg rfl 26 (.tmp 14) (.tmp 48) rfl wr.heap.size 0 26 zd (c8 y) rfl rfl (hS9.row 0 rfl) IY.out FY.out (one8 _) ?_)
        intro wA hr hg hz'
        clear hz'
        rw [splice_all EY.out] at hr
        have hSA := hS9.setRow 0 rfl hr hg
        clear hr hg hS9
        go_wp2_with fail
        have hSB := hSA.drew
        clear hSA
        refine wp_region_mixC (fun W => Own w8 W _) (fun _ => true) [(0, true), (1, true), (2, true), (3, true), (4, true), (7, true), (8, true), (9, true), (10, true), (11, true), (5, false), (6, false), (12, false), (13, true)] (by kernel_rfl) (by kernel_rfl) hSB ?_
        refine wpMix_pureW (.agg (c8 y).toArray) rfl rfl (fun W hW => run_load_op 26 (.tmp 14) rfl Try.underlying26 rfl ⟨wr.heap.size, 0, none⟩ rfl _ IY.out (row_all (hW.row 0 rfl))) ?_
        iterate 2 (refine wpMix_step rfl (fun K hK => ?_); go_simp; (try go_bits); with_reducible refine hK _ ?_; clear hK K)
        refine wpMix_pureW (.agg (c8 x).toArray) rfl rfl (fun W hW => run_load_op 26 (.tmp 9) rfl Try.underlying26 rfl ⟨w2.heap.size, 0, none⟩ rfl _ IX.out (fun j u hu => hW.cell (HX8.out j u hu))) ?_
        iterate 1 (refine wpMix_step rfl (fun K hK => ?_); go_simp; (try go_bits); with_reducible refine hK _ ?_; clear hK K)
        refine wpMix_pureW (.agg (c8 y).toArray) rfl rfl (fun W hW => run_load_op 26 (.tmp 14) rfl Try.underlying26 rfl ⟨wr.heap.size, 0, none⟩ rfl _ IY.out (row_all (hW.row 0 rfl))) ?_
        iterate 2 (refine wpMix_step rfl (fun K hK => ?_); go_simp; (try go_bits); with_reducible refine hK _ ?_; clear hK K)
        refine wpMix_pureW (.agg (c8 x).toArray) rfl rfl (fun W hW => run_load_op 26 (.tmp 9) rfl Try.underlying26 rfl ⟨w2.heap.size, 0, none⟩ rfl _ IX.out (fun j u hu => hW.cell (HX8.out j u hu))) ?_
        iterate 1 (refine wpMix_step rfl (fun K hK => ?_); go_simp; (try go_bits); with_reducible refine hK _ ?_; clear hK K)
        refine wpMix_loudW _ rfl rfl ?_
        go_wp2_with fail
        refine (k2 _ _ _ (HD8.out.keep hSB.grown) HC1.out).mono ?_
        rintro e wB ⟨v, rfl, ho, hg⟩
        obtain ⟨AT, cT, rfl, hRT, hcT⟩ := ownsR_at ho (show W1.length = m by have := HQL.out; have := HQ1.out; have := HQ.out; rw [HQ.out] at *; simp at *; omega)
        have hSC := hSB.call hg
        clear hg hSB ho
        go_wp2_with fail
        refine wpMix_next' (fun _ => hSC) ?_
        refine wpMix_loudW _ rfl rfl ?_
        go_wp2_with fail
        refine (kc _ _ _ _ HYL.out hRT hcT).mono ?_
        rintro e wC ⟨rfl, hg⟩
        have hSD := hSC.call hg
        clear hg hSC
        go_wp2_with fail
        refine wpMix_next' (fun _ => hSD) ?_
        refine wpMix_loudW _ rfl rfl ?_
        go_wp2_with fail
        refine (kr _ _ _ _ HYL.out (HD8.out.keep hSD.grown) HC1.out).mono ?_
        rintro e wD ⟨rfl, hg⟩
        have hSE := hSD.call hg
        clear hg hSD
        go_wp2_with fail
        refine wpMix_next' (fun _ => hSE) ?_
        iterate 1 (refine wpMix_step rfl (fun K hK => ?_); go_simp; (try go_bits); with_reducible refine hK _ ?_; clear hK K)
        unfold wpMix
        clear hRT hcT
        have hSF : Own w8 _ [] := hSE.sub (List.nil_sublist _)
        clear hSE
        go_wp2
        go_roundw
        case rel => exact ⟨k + 1, by have := HK.out; omega, by go_num, hSF⟩
        case measure => have := HK.out; simp [intOf] <;> omega
      · obtain rfl : k = 2 := by omega
        clear hlt hk
        go_wp2_with fail
        cases ok
        · have HKF := Lib.hid (HOK.out rfl)
          clear HOK
          have hSB := hS.drew
          clear hS
          refine wp_region_mixC (fun W => Own w8 W _) (fun _ => true) [(0, false), (1, true), (2, true), (3, true), (4, true), (5, true), (6, true), (7, true), (8, true), (9, false), (10, false), (11, true), (12, true), (13, true), (14, false)] (by kernel_rfl) (by kernel_rfl) hSB ?_
          refine wpMix_loudW _ rfl rfl ?_
          go_wp2_with fail
          refine (awake_any _).mono ?_
          rintro e wE ⟨rfl, hg⟩
          have hSC := hSB.call hg
          clear hg hSB
          go_wp2_with fail
          refine wpMix_next' (fun _ => hSC) ?_
          iterate 3 (refine wpMix_step rfl (fun K hK => ?_); go_simp; (try go_bits); with_reducible refine hK _ ?_; clear hK K)
          refine wpMix_pureW (.agg (c8 root).toArray) rfl rfl (fun W hW => run_load_op 26 (.tmp 4) rfl Try.underlying26 rfl ⟨w.heap.size, 0, none⟩ rfl _ IR.out (fun j u hu => hW.cell (HRT8.out j u hu))) ?_
          iterate 2 (refine wpMix_step rfl (fun K hK => ?_); go_simp; (try go_bits); with_reducible refine hK _ ?_; clear hK K)
          refine wpMix_pureW (.agg (c8 x).toArray) rfl rfl (fun W hW => run_load_op 26 (.tmp 9) rfl Try.underlying26 rfl ⟨w2.heap.size, 0, none⟩ rfl _ IX.out (fun j u hu => hW.cell (HX8.out j u hu))) ?_
          iterate 1 (refine wpMix_step rfl (fun K hK => ?_); go_simp; (try go_bits); with_reducible refine hK _ ?_; clear hK K)
          refine wpMix_loudW _ rfl rfl ?_
          go_wp2_with fail
          refine (k2 _ _ _ (HD8.out.keep hSC.grown) HC1.out).mono ?_
          rintro e wB ⟨v, rfl, ho, hg⟩
          obtain ⟨AT, cT, rfl, hRT, hcT⟩ := ownsR_at ho (show W1.length = m by have := HQL.out; have := HQ1.out; have := HQ.out; rw [HQ.out] at *; simp at *; omega)
          have hSD := hSC.call hg
          clear hg hSC ho
          go_wp2_with fail
          refine wpMix_next' (fun _ => hSD) ?_
          have hk1 := kc _ _ _ _ HR.out hRT hcT
          rw [HKF.out] at hk1
          refine wpMix_loudW _ rfl rfl ?_
          go_wp2_with fail
          refine (hk1).mono ?_
          rintro e wF ⟨rfl, hg⟩
          have hSE := hSD.call hg
          clear hg hSD
          go_wp2_with fail
          refine wpMix_next' (fun _ => hSE) ?_
          iterate 3 (refine wpMix_step rfl (fun K hK => ?_); go_simp; (try go_bits); with_reducible refine hK _ ?_; clear hK K)
          refine wpMix_loudW _ rfl rfl ?_
          go_wp2_with fail
          refine wpMix_next' (fun _ => hSE) ?_
          unfold wpMix
          go_wp2
          go_ret
          exact ⟨rfl, grownBy_trans HG8.out hSE.grown⟩
        · clear HOK
          have hSB := hS.drew
          clear hS
          refine wp_region_mixC (fun W => Own w8 W _) (fun _ => true) [(0, false), (1, true), (2, true), (3, true), (4, true), (5, true), (6, true), (7, true), (8, true), (9, true), (10, true), (11, true), (12, true), (13, true), (14, false)] (by kernel_rfl) (by kernel_rfl) hSB ?_
          refine wpMix_loudW _ rfl rfl ?_
          go_wp2_with fail
          refine (awake_any _).mono ?_
          rintro e wE ⟨rfl, hg⟩
          have hSC := hSB.call hg
          clear hg hSB
          go_wp2_with fail
          refine wpMix_next' (fun _ => hSC) ?_
          iterate 13 (refine wpMix_step rfl (fun K hK => ?_); go_simp; (try go_bits); with_reducible refine hK _ ?_; clear hK K)
          refine wpMix_loudW _ rfl rfl ?_
          go_wp2_with fail
          refine wpMix_next' (fun _ => hSC) ?_
          unfold wpMix
          go_wp2
          go_ret
          exact ⟨rfl, grownBy_trans HG8.out hSC.grown⟩
  · have kc0 := kcut.2 (by omega)
    have l0 : (0 : Int) < (l : Int) := by omega
    have l1 : decide ((l : Int) = 0) = false := by simp; omega
    have l2 : ¬ l = 0 := hl
    have l3 : ((l : Int) == 0) = false := by simp; omega
    clear hl
    go_wp2_with fail
    refine (kc0 _ hS1.grown).mono ?_
    rintro e w2 ⟨v, rfl, ho, hg⟩
    have hS2 := hS1.call hg
    clear hg hS1 kc0 l0 l1 l2 l3
    obtain ⟨A1, c1, rfl, hR, hc1⟩ := ownsR_at ho HQL.out
    clear ho kcut
    rw [HQ.out] at hR
    obtain ⟨b, off, rfl, hat⟩ := hR.at_ 0 (by simp)
    have hdr := hR.drop 1 (by simp)
    have hle := hR.le
    obtain ⟨B2, hB2⟩ : ∃ B2, B2 = (if c1 = 1 then (some ⟨b, off, none⟩ : Option Addr) else (some ⟨b, off, none⟩ : Option Addr).map fun ad => ad.add (1 * 32)) := ⟨_, rfl⟩
    have hfr := fun W => run_from32 Try.underlying22 size_a (some ⟨b, off, none⟩) q c1 1 (by omega) (by have := HQL.out; have := HQ.out; rw [← HQL.out, HQ.out]; exact hle) W
    rw [← hB2] at hdr hfr
    have hm : q - 1 = m := by have := HQ1.out; omega
    have hfr' : ∀ W, (Instr.slice 22 (.slice (some ⟨b, off, none⟩) q c1) (some (.int .i64 1)) none none).run Try.prog W = .ok (.slice B2 m (c1 - 1)) W := fun W => by rw [← hm]; exact hfr W
    have HDR := Lib.hid (show Rows32 w2 B2 (c1 - 1) W1 from hdr)
    have HC1 := Lib.hid (show c1 - 1 ≤ 9223372036854775807 by omega)
    have HAT := Lib.hid (show ∀ j u, (c8 x)[j]? = some u → w2.cell? ((⟨b, off, none⟩ : Addr).add j) = some u by simpa using hat)
    clear hR hat hdr hle hB2 hfr hm hc1
    have HG2 := Lib.hid hS2.grown
    have HRT := Lib.hid (row_all (hS2.row 0 rfl))
    clear hS2
    have hT := Own.start w2
    go_wp2
    have hT1 := hT.drew
    clear hT
    refine wp_region_mixC (fun W => Own w2 W []) (fun _ => true) [(0, true), (1, true), (2, true), (3, true), (4, true), (5, false), (6, false), (7, false)] (by kernel_rfl) (by kernel_rfl) hT1 ?_
    iterate 2 (refine wpMix_step rfl (fun K hK => ?_); go_simp; (try go_bits); with_reducible refine hK _ ?_; clear hK K)
    refine wpMix_pureW (.agg (c8 x).toArray) rfl rfl (fun W hW => run_load_op 26 (.tmp 23) rfl Try.underlying26 rfl ⟨b, off, none⟩ rfl _ IX.out (fun j u hu => hW.cell (HAT.out j u hu))) ?_
    iterate 2 (refine wpMix_step rfl (fun K hK => ?_); go_simp; (try go_bits); with_reducible refine hK _ ?_; clear hK K)
    refine wpMix_loudW _ rfl rfl ?_
    go_wp2_with (refine wp_alloc (o := ⟨some 9, _, _, _, _, _⟩) rfl 26 rfl _ alloc_d32 ?_)
    intro w3 hr hg hz'
    clear hz'
    have hT2 := hT1.new hr hg
    clear hr hg hT1
    go_wp2_with fail
    refine wpMix_next' (fun _ => hT2.tail) ?_
    refine wpMix_loudW _ rfl rfl ?_
    go_wp2_with (refine wp_storeAgg rfl 26 (.tmp 9) (.tmp 24) rfl w2.heap.size 0 26 zd (c8 x) rfl rfl (hT2.row 0 rfl) IX.out FX.out (one8 _) ?_)
    intro w4 hr hg hz'
    clear hz'
    rw [splice_all EX.out] at hr
    have hT3 := hT2.setRow 0 rfl hr hg
    clear hr hg hT2
    go_wp2_with fail
    refine wpMix_next' (fun _ => hT3.tail) ?_
    refine wpMix_loudW _ rfl rfl ?_
    go_wp2_with fail
    refine wpMix_next' (fun _ => hT3.tail) ?_
    unfold wpMix
    go_wp2_with (first | (refine wp_load rfl 26 (.tmp 9) rfl Try.underlying26 rfl ⟨w2.heap.size, 0, none⟩ rfl (c8 x) IX.out (row_all (hT3.row 0 rfl)) ?_))
    refine (cu _ _ _ (HDR.out.keep hT3.grown) HC1.out).mono ?_
    rintro e w5 ⟨BU, ku, du, rfl, hg⟩
    have hT4 := hT3.call hg
    clear hg hT3 cu
    go_wp2_with (refine wp_alloc (o := ⟨some 10, _, _, _, _, _⟩) rfl 26 rfl _ alloc_d32 ?_)
    intro w6 hr hg hz
    clear hz
    have hT6 := hT4.new hr hg
    clear hr hg
    go_wp2_with (refine wp_storeAgg rfl 26 (.tmp 10) (.tmp 38) rfl w5.heap.size 0 26 zd (c8 V) rfl rfl (hT6.row 0 rfl) IV.out FV.out (one8 _) ?_)
    intro w7 hr hg hz'
    clear hz'
    rw [splice_all EV.out] at hr
    have hT7 := hT6.setRow 0 rfl hr hg
    clear hr hg hT6 hT4
    go_wp2_with (first | (refine wp_load rfl 26 (.tmp 4) rfl Try.underlying26 rfl ⟨w.heap.size, 0, none⟩ rfl (c8 root) IR.out (fun j u hu => hT7.cell (HRT.out j u hu)) ?_) | (refine wp_load rfl 26 (.tmp 10) rfl Try.underlying26 rfl ⟨w5.heap.size, 0, none⟩ rfl (c8 V) IV.out (row_all (hT7.row 0 rfl)) ?_) | (refine wp_built2 rfl 22 (.tmp 41) (.tmp 42) rfl 26 Try.underlying22 32 info_za (by omega) (by omega) (c8 root) (c8 V) (by rw [c8_length]; exact HR.out) (by rw [c8_length]; exact HV.out) rfl rfl ?_))
    intro w8 hr hg
    have hT8 := hT7.new hr hg
    clear hr hg hT7
    have HRT8 := Lib.hid (show ∀ j u, (c8 root)[j]? = some u → w8.cell? ((⟨w.heap.size, 0, none⟩ : Addr).add j) = some u from fun j u hu => hT8.cell (HRT.out j u hu))
    have HX8 := Lib.hid (row_all (hT8.row 2 rfl))
    have HD8 := Lib.hid (HDR.out.keep hT8.grown)
    have HRR := Lib.hid (rows_of_row (L := [root, V]) (by rw [show c8 ([root, V] : List (List UInt8)).flatten = c8 root ++ c8 V by simp [c8]]; exact hT8.row 0 rfl) (fun y hy => by simp at hy; rcases hy with rfl | rfl; exact HR.out; exact HV.out))
    have HG8 := Lib.hid (grownBy_trans HG2.out hT8.grown)
    clear HRT HDR HAT HG2 hT8
    have hU := Own.start w8
    go_wp2
    go_loopw [45] (fun iv wr => ∃ k : Nat, k ≤ 2 ∧ iv = .int .i64 (k : Int) ∧ Own w8 wr []) (fun iv _ => 2 - (intOf iv).toNat)
    case atStart => exact ⟨0, by omega, rfl, hU⟩
    case round =>
      clear hU
      obtain ⟨k, hk, rfl, hS⟩ := hrel
      by_cases hlt : k < 2
      · have p1 : (k : Int) < 2 := by omega
        obtain ⟨b', off', hA', hat'⟩ := (HRR.out.keep hS.grown).at_ k hlt
        injection hA' with hA'
        injection hA' with hb' ho' _
        subst hb'
        subst ho'
        have hyl := HRR.out.all.at_ k hlt
        obtain ⟨y, hy⟩ : ∃ y, y = ([root, V] : List (List UInt8)).getD k [] := ⟨_, rfl⟩
        rw [← hy] at hat' hyl
        have HYL := Lib.hid hyl
        have IY := Lib.hid (info_a32 y hyl)
        have FY := Lib.hid (show 0 + (c8 y).length ≤ zd.length by rw [c8_length, hyl]; decide)
        have EY := Lib.hid (show (c8 y).length = zd.length by rw [c8_length, hyl]; decide)
        have HAY := Lib.hid (show ∀ j u, (c8 y)[j]? = some u → wr.cell? ((⟨w7.heap.size, k * 32, none⟩ : Addr).add j) = some u by intro j u hu; have := hat' j u hu; rwa [Nat.zero_add] at this)
        have HK := Lib.hid (show k < 2 from hlt)
        clear hat' hy hyl hlt hk
        go_wp2_with (first | (refine wp_load rfl 26 (.tmp 47) rfl Try.underlying26 rfl ⟨w7.heap.size, k * 32, none⟩ rfl (c8 y) IY.out HAY.out ?_) | (refine wp_alloc (o := ⟨some 14, _, _, _, _, _⟩) rfl 26 rfl _ alloc_d32 ?_))
        intro w9 hr hg hz'
        clear hz'
        have hS9 := hS.new hr hg
        clear hr hg hS
        go_wp2_with (refine wp_storeAgg rfl 26 (.tmp 14) (.tmp 48) rfl wr.heap.size 0 26 zd (c8 y) rfl rfl (hS9.row 0 rfl) IY.out FY.out (one8 _) ?_)
        intro wA hr hg hz'
        clear hz'
        rw [splice_all EY.out] at hr
        have hSA := hS9.setRow 0 rfl hr hg
        clear hr hg hS9
        go_wp2_with fail
        have hSB := hSA.drew
        clear hSA
        refine wp_region_mixC (fun W => Own w8 W _) (fun _ => true) [(0, true), (1, true), (2, true), (3, true), (4, true), (7, true), (8, true), (9, true), (10, true), (11, true), (5, false), (6, false), (12, false), (13, true)] (by kernel_rfl) (by kernel_rfl) hSB ?_
        refine wpMix_pureW (.agg (c8 y).toArray) rfl rfl (fun W hW => run_load_op 26 (.tmp 14) rfl Try.underlying26 rfl ⟨wr.heap.size, 0, none⟩ rfl _ IY.out (row_all (hW.row 0 rfl))) ?_
        iterate 2 (refine wpMix_step rfl (fun K hK => ?_); go_simp; (try go_bits); with_reducible refine hK _ ?_; clear hK K)
        refine wpMix_pureW (.agg (c8 x).toArray) rfl rfl (fun W hW => run_load_op 26 (.tmp 9) rfl Try.underlying26 rfl ⟨w2.heap.size, 0, none⟩ rfl _ IX.out (fun j u hu => hW.cell (HX8.out j u hu))) ?_
        iterate 1 (refine wpMix_step rfl (fun K hK => ?_); go_simp; (try go_bits); with_reducible refine hK _ ?_; clear hK K)
        refine wpMix_pureW (.agg (c8 y).toArray) rfl rfl (fun W hW => run_load_op 26 (.tmp 14) rfl Try.underlying26 rfl ⟨wr.heap.size, 0, none⟩ rfl _ IY.out (row_all (hW.row 0 rfl))) ?_
        iterate 2 (refine wpMix_step rfl (fun K hK => ?_); go_simp; (try go_bits); with_reducible refine hK _ ?_; clear hK K)
        refine wpMix_pureW (.agg (c8 x).toArray) rfl rfl (fun W hW => run_load_op 26 (.tmp 9) rfl Try.underlying26 rfl ⟨w2.heap.size, 0, none⟩ rfl _ IX.out (fun j u hu => hW.cell (HX8.out j u hu))) ?_
        iterate 1 (refine wpMix_step rfl (fun K hK => ?_); go_simp; (try go_bits); with_reducible refine hK _ ?_; clear hK K)
        refine wpMix_loudW _ rfl rfl ?_
        go_wp2_with fail
        refine (k2 _ _ _ (HD8.out.keep hSB.grown) HC1.out).mono ?_
        rintro e wB ⟨v, rfl, ho, hg⟩
        obtain ⟨AT, cT, rfl, hRT, hcT⟩ := ownsR_at ho (show W1.length = m by have := HQL.out; have := HQ1.out; have := HQ.out; rw [HQ.out] at *; simp at *; omega)
        have hSC := hSB.call hg
        clear hg hSB ho
        go_wp2_with fail
        refine wpMix_next' (fun _ => hSC) ?_
        refine wpMix_loudW _ rfl rfl ?_
        go_wp2_with fail
        refine (kc _ _ _ _ HYL.out hRT hcT).mono ?_
        rintro e wC ⟨rfl, hg⟩
        have hSD := hSC.call hg
        clear hg hSC
        go_wp2_with fail
        refine wpMix_next' (fun _ => hSD) ?_
        refine wpMix_loudW _ rfl rfl ?_
        go_wp2_with fail
        refine (kr _ _ _ _ HYL.out (HD8.out.keep hSD.grown) HC1.out).mono ?_
        rintro e wD ⟨rfl, hg⟩
        have hSE := hSD.call hg
        clear hg hSD
        go_wp2_with fail
        refine wpMix_next' (fun _ => hSE) ?_
        iterate 1 (refine wpMix_step rfl (fun K hK => ?_); go_simp; (try go_bits); with_reducible refine hK _ ?_; clear hK K)
        unfold wpMix
        clear hRT hcT
        have hSF : Own w8 _ [] := hSE.sub (List.nil_sublist _)
        clear hSE
        go_wp2
        go_roundw
        case rel => exact ⟨k + 1, by have := HK.out; omega, by go_num, hSF⟩
        case measure => have := HK.out; simp [intOf] <;> omega
      · obtain rfl : k = 2 := by omega
        clear hlt hk
        go_wp2_with fail
        cases ok
        · have HKF := Lib.hid (HOK.out rfl)
          clear HOK
          have hSB := hS.drew
          clear hS
          refine wp_region_mixC (fun W => Own w8 W _) (fun _ => true) [(0, false), (1, true), (2, true), (3, true), (4, true), (5, true), (6, true), (7, true), (8, true), (9, false), (10, false), (11, true), (12, true), (13, true), (14, false)] (by kernel_rfl) (by kernel_rfl) hSB ?_
          refine wpMix_loudW _ rfl rfl ?_
          go_wp2_with fail
          refine (awake_any _).mono ?_
          rintro e wE ⟨rfl, hg⟩
          have hSC := hSB.call hg
          clear hg hSB
          go_wp2_with fail
          refine wpMix_next' (fun _ => hSC) ?_
          iterate 3 (refine wpMix_step rfl (fun K hK => ?_); go_simp; (try go_bits); with_reducible refine hK _ ?_; clear hK K)
          refine wpMix_pureW (.agg (c8 root).toArray) rfl rfl (fun W hW => run_load_op 26 (.tmp 4) rfl Try.underlying26 rfl ⟨w.heap.size, 0, none⟩ rfl _ IR.out (fun j u hu => hW.cell (HRT8.out j u hu))) ?_
          iterate 2 (refine wpMix_step rfl (fun K hK => ?_); go_simp; (try go_bits); with_reducible refine hK _ ?_; clear hK K)
          refine wpMix_pureW (.agg (c8 x).toArray) rfl rfl (fun W hW => run_load_op 26 (.tmp 9) rfl Try.underlying26 rfl ⟨w2.heap.size, 0, none⟩ rfl _ IX.out (fun j u hu => hW.cell (HX8.out j u hu))) ?_
          iterate 1 (refine wpMix_step rfl (fun K hK => ?_); go_simp; (try go_bits); with_reducible refine hK _ ?_; clear hK K)
          refine wpMix_loudW _ rfl rfl ?_
          go_wp2_with fail
          refine (k2 _ _ _ (HD8.out.keep hSC.grown) HC1.out).mono ?_
          rintro e wB ⟨v, rfl, ho, hg⟩
          obtain ⟨AT, cT, rfl, hRT, hcT⟩ := ownsR_at ho (show W1.length = m by have := HQL.out; have := HQ1.out; have := HQ.out; rw [HQ.out] at *; simp at *; omega)
          have hSD := hSC.call hg
          clear hg hSC ho
          go_wp2_with fail
          refine wpMix_next' (fun _ => hSD) ?_
          have hk1 := kc _ _ _ _ HR.out hRT hcT
          rw [HKF.out] at hk1
          refine wpMix_loudW _ rfl rfl ?_
          go_wp2_with fail
          refine (hk1).mono ?_
          rintro e wF ⟨rfl, hg⟩
          have hSE := hSD.call hg
          clear hg hSD
          go_wp2_with fail
          refine wpMix_next' (fun _ => hSE) ?_
          iterate 3 (refine wpMix_step rfl (fun K hK => ?_); go_simp; (try go_bits); with_reducible refine hK _ ?_; clear hK K)
          refine wpMix_loudW _ rfl rfl ?_
          go_wp2_with fail
          refine wpMix_next' (fun _ => hSE) ?_
          unfold wpMix
          go_wp2
          go_ret
          exact ⟨rfl, grownBy_trans HG8.out hSE.grown⟩
        · clear HOK
          have hSB := hS.drew
          clear hS
          refine wp_region_mixC (fun W => Own w8 W _) (fun _ => true) [(0, false), (1, true), (2, true), (3, true), (4, true), (5, true), (6, true), (7, true), (8, true), (9, true), (10, true), (11, true), (12, true), (13, true), (14, false)] (by kernel_rfl) (by kernel_rfl) hSB ?_
          refine wpMix_loudW _ rfl rfl ?_
          go_wp2_with fail
          refine (awake_any _).mono ?_
          rintro e wE ⟨rfl, hg⟩
          have hSC := hSB.call hg
          clear hg hSB
          go_wp2_with fail
          refine wpMix_next' (fun _ => hSC) ?_
          iterate 13 (refine wpMix_step rfl (fun K hK => ?_); go_simp; (try go_bits); with_reducible refine hK _ ?_; clear hK K)
          refine wpMix_loudW _ rfl rfl ?_
          go_wp2_with fail
          refine wpMix_next' (fun _ => hSC) ?_
          unfold wpMix
          go_wp2
          go_ret
          exact ⟨rfl, grownBy_trans HG8.out hSC.grown⟩
theorem walk_MerkleChecks (w : World) (root : List UInt8) (hr0 : root.length = 32) (n : Int) (wn : (Lit.int .i64 n).wf = true) (i : Int) (wi : (Lit.int .i64 i).wf = true) (A : Option Addr) (l c : Nat) (b : List UInt8) (hn : b.length = l * 32) (hb : Bytes w A b) (hle : l ≤ c) (hr : c * 32 ≤ 140737488351232) (hnil : A = none → c = 0) :
    Calls Try.prog 5 #[.agg (c8 root).toArray, .int .i64 n, .int .i64 i, .slice A l c] w fun e w' => e = .returned (.bool true) ∧ w.grownBy w' none := by
  obtain ⟨L, rfl, rfl, hL⟩ := Rows32.of_flat hn hb hle hnil
  have hnw : -9223372036854775808 ≤ n ∧ n ≤ 9223372036854775807 := of_i64 wn
  have hiw : -9223372036854775808 ≤ i ∧ i ≤ 9223372036854775807 := of_i64 wi
  have hz : zeros32.length = 32 := by simp [zeros32]
  obtain ⟨Q, hQd⟩ : ∃ Q, Q = (if L = [] then [zeros32] else L).take 70 := ⟨_, rfl⟩
  have hQall : L32 Q := by
    rw [hQd]; refine L32.take ?_ 70
    split
    · intro y hy; rw [List.mem_singleton.1 hy]; exact hz
    · exact hL.all
  have hQlen : Q.length ≤ 70 := by rw [hQd]; simp; omega
  obtain ⟨x, W1, hQ⟩ : ∃ x W1, Q = x :: W1 := by
    rw [hQd]
    by_cases h0 : L = []
    · rw [if_pos h0]; exact ⟨zeros32, [], rfl⟩
    · rw [if_neg h0]
      cases L with
      | nil => exact absurd rfl h0
      | cons y r => exact ⟨y, r.take 69, rfl⟩
  have hx : x.length = 32 := hQall x (by rw [hQ]; simp)
  obtain ⟨N, hN⟩ : ∃ N : Nat, max n 1 = (N : Int) := ⟨(max n 1).toNat, by omega⟩
  obtain ⟨n1, hn1⟩ : ∃ n1, wrap64 (n - 1) = n1 := ⟨_, rfl⟩
  obtain ⟨I, hI⟩ : ∃ I : Nat, max 0 (min i n1) = (I : Int) := ⟨(max 0 (min i n1)).toNat, by omega⟩
  have hn1b : -9223372036854775808 ≤ n1 ∧ n1 ≤ 9223372036854775807 := by rw [← hn1]; unfold wrap64; omega
  have hn1e : 1 ≤ n → n1 = n - 1 := fun h => by rw [← hn1]; unfold wrap64; omega
  have hNI : 2 ≤ N → I < N ∧ (N : Int) = n := fun h => by have := hn1e (by omega); omega
  have hN1 : 1 ≤ N ∧ N ≤ 9223372036854775807 := by omega
  have hlenO : ∀ y r, upO N I x W1 = some (y, r) → y.length = 32 := fun y r h => (upO_len N N I x W1 (Nat.le_refl _) hx y r h).1
  have hK : ∀ r : List UInt8, ∀ (A : Option Addr) (c : Nat) (W : World), r.length = 32 → Rows32 W A c W1 → c ≤ 9223372036854775807 →
      Calls Try.prog 24 #[.agg (c8 r).toArray, .int .i64 n, .int .i64 i, .agg (c8 x).toArray, .slice A W1.length c] W (fun e w' => e = .returned (.bool (if 0 ≤ i ∧ i < n then checkL r n.toNat i.toNat x W1 else false)) ∧ W.grownBy w' none) ∧
      Calls Try.prog 26 #[.agg (c8 r).toArray, .int .i64 n, .int .i64 i, .agg (c8 x).toArray, .slice A W1.length c] W (fun e w' => e = .returned (.bool (if 0 ≤ i ∧ i < n then checkL r n.toNat i.toNat x W1 else false)) ∧ W.grownBy w' none) := by
    intro r A c W hrl hW hc
    by_cases hin : 0 ≤ i ∧ i < n
    · rw [if_pos hin]
      obtain ⟨n', rfl⟩ : ∃ n' : Nat, n = (n' : Int) := ⟨n.toNat, by omega⟩
      obtain ⟨i', rfl⟩ : ∃ i' : Nat, i = (i' : Int) := ⟨i.toNat, by omega⟩
      rw [Int.toNat_natCast, Int.toNat_natCast]
      exact ⟨check_any n' i' r x A c W1 W hrl hx hW hc (by omega) (by omega), rcheck_any n' i' r x A c W1 W hrl hx hW hc (by omega) (by omega)⟩
    · rw [if_neg hin]
      exact ⟨checkx_bad W n i r x _ (by omega), rcheck_bad W n i r x _ (by omega)⟩
  refine checks_core w root x ((upO N I x W1).map (·.1) |>.getD zeros32) n i n1 N I W1.length Q.length A L.length c Q W1 (upO N I x W1).isSome (fun r => if 0 ≤ i ∧ i < n then checkL r n.toNat i.toNat x W1 else false)
    (Lib.hid hr0) (Lib.hid hx) (Lib.hid ?_) (Lib.hid rfl) (Lib.hid hQ) (by omega) (Lib.hid (by rw [hQ]; rfl)) hN hn1 hI hnw.1 hnw.2 hiw.1 hiw.2 hn1b.1 hn1b.2 ⟨fun h0 W g hg hrow => ?_, fun h0 W hg => ?_⟩ (fun A c W hW hc => ?_)
    (fun A c W hW hc => to_any A c W1 W hW (by have : Q.length = W1.length + 1 := by rw [hQ]; rfl
                                               omega)) (fun r A c W h1 h2 h3 => (hK r A c W h1 h2 h3).1) (fun r A c W h1 h2 h3 => (hK r A c W h1 h2 h3).2) (Lib.hid (fun hno => ?_))
  · match ho : upO N I x W1 with
    | none => exact hz
    | some (y, r) => exact hlenO y r ho
  · have hL0 : L = [] := List.eq_nil_of_length_eq_zero h0
    have hrows := rows_of_row (L := [zeros32]) (by simpa using hrow) (fun y hy => by rw [List.mem_singleton.1 hy]; exact hz)
    have := cut_any (some ⟨g, 0, none⟩) 1 [zeros32] 70 W hrows (by omega) (by omega)
    rw [hQd, if_pos hL0]
    exact this
  · have hL0 : L ≠ [] := by rintro rfl; simp at h0
    have := cut_any A c L 70 W (hL.keep hg) (by omega) (by omega)
    rw [hQd, if_neg hL0]
    exact this
  · rcases Nat.lt_or_ge N 2 with h2 | h2
    · rw [upO_one h2]
      exact (up_few W N I W1.length c x A (Lib.hid hx) h2).mono fun e w' h => ⟨_, _, _, h.1, h.2⟩
    · refine (up_any N N I x A c W1 W W (Nat.le_refl _) (hNI h2).1 hN1.2 hx (grownBy_refl _ _) hW hc).mono fun e w' h => ?_
      obtain ⟨h1, h3⟩ := h
      revert h1
      match upO N I x W1 with
      | none => intro h1; exact ⟨_, _, _, h1, h3⟩
      | some (y, r) => intro h1; exact ⟨_, _, _, h1, h3⟩
  · have hnone : upO N I x W1 = none := by cases h : upO N I x W1 with
      | none => rfl
      | some z => rw [h] at hno; cases hno
    have h2 : 2 ≤ N := by
      refine Classical.byContradiction fun h => ?_
      rw [upO_one (by omega)] at hnone; cases hnone
    show (if 0 ≤ i ∧ i < n then checkL root n.toNat i.toNat x W1 else false) = false
    split
    · rename_i hin
      have hnn := (hNI h2).2
      have hn' := hn1e (by omega)
      have e1 : n.toNat = N := by omega
      have e2 : i.toNat = I := by omega
      rw [e1, e2]
      unfold checkL
      rw [hnone]; rfl
    · rfl
end Go.Proofs.Ytpohjldhbaalbaa
