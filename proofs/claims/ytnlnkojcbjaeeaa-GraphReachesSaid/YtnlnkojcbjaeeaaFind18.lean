/- Find, In, copied, Has of the document's list; the law's same. -/
import Derived.Test.YtnlnkojcbjaeeaaNd18
namespace Go.Proofs.Ytnlnkojcbjaeeaa
set_option linter.unusedVariables false
set_option linter.unusedSimpArgs false
set_option linter.unusedSectionVars false
open Go.RowKit
set_option linter.unusedVariables false
theorem findR_step {α : Type} (l : List (Dg × α)) (d : Dg) (z : Dg × α) (k : Nat) (h : k < l.length) : findR (l.drop k) d = if belL (l.getD k z).1 d = true then findR (l.drop (k + 1)) d + 1 else 0 := by
  have e : l.drop k = l[k] :: l.drop (k + 1) := List.drop_eq_getElem_cons h
  rw [e, findR_cons]
  simp [h]
set_option maxRecDepth 100000 in
set_option maxHeartbeats 1000000 in
theorem find_any (A : Option Addr) (c n : Nat) (kv : KV) (d : Dg) (w : World) (hn : kv.length = n) (hN : NdIn w A c kv) (hd : d.length = 32) (hl : kv.length ≤ 4096) :
    Calls Try.prog 27 #[.slice A n c, dgv d] w fun e w' => e = .returned (.int .i64 (findR kv d : Int)) ∧ w.grownBy w' none := by
  subst hn
  have HD := Lib.hid hd
  have HL := Lib.hid hl
  have HN := Lib.hid hN
  have hT := Own.start w
  clear hd hl hN
  go_enter Try.func27, Try.ntmps27
  go_wp2_with (refine wp_box (o := ⟨some 3, _, _, _, _, _⟩) rfl 29 (.tmp 1) rfl (c8 d) rfl ?_)
  intro w1 hr hg hz
  clear hz
  have hS := hT.new hr hg
  clear hr hg hT
  go_wp2
  go_loopw [5] (fun i wr => ∃ k : Nat, k ≤ kv.length ∧ i = .int .i64 k ∧ findR kv d = findR (kv.drop k) d + k ∧ Own w wr [rowE w.heap.size 29 (c8 d)]) (fun i _ => kv.length - (intOf i).toNat)
  case atStart => exact ⟨0, by omega, rfl, by simp, hS⟩
  case round =>
    clear hS
    obtain ⟨k, hk, rfl, hf, hS⟩ := hrel
    have HF := Lib.hid hf
    clear hf
    by_cases hlt : k < kv.length
    · have q1 : (k : Int) < (kv.length : Int) := by omega
      have q2 : (k : Int) < 4096 := by have := HL.out; omega
      obtain ⟨b, off, rfl, hc, -⟩ := (HN.out.keep hS.grown).sum k hlt
      have hx := (HN.out.k32.at_ k hlt).1
      have hst := findR_step kv d nd0 k hlt
      obtain ⟨x, hxe⟩ : ∃ x, x = (kv.getD k nd0).1 := ⟨_, rfl⟩
      rw [← hxe] at hc hx hst
      have HX := Lib.hid hx
      have HC := Lib.hid (show ∀ j u, (c8 x)[j]? = some u → w.cell? ((⟨b, off + k * 33, none⟩ : Addr).add j) = some u by
        obtain ⟨b', off', e1, e2, -⟩ := HN.out.sum k hlt
        rw [← hxe] at e2
        injection e1 with e1
        injection e1 with e1 e3
        subst e1; subst e3
        exact e2)
      have HB := Lib.hid (fun W => below_any x d W HX.out HD.out)
      have HST := Lib.hid hst
      clear hc hx hst hxe
      go_wp2
      have hS1 := hS.drew
      clear hS
      refine wp_region_mixC (fun W => Own w W _) (fun _ => true) [(0, true), (1, true), (2, true), (3, true), (4, true), (5, true), (6, true), (7, true), (8, true), (9, true), (10, true), (11, false), (12, true)] (by kernel_rfl) (by kernel_rfl) hS1 ?_
      iterate 9 (refine wpMix_step rfl (fun K hK => ?_); go_simp; (try go_bits); with_reducible refine hK _ ?_; clear hK K)
      refine wpMix_pureW (.agg (c8 x).toArray) rfl rfl (fun W hW => run_load_op 29 (.tmp 14) rfl Try.underlying29 rfl ⟨b, off + k * 33, none⟩ rfl _ (info_a32 x HX.out) (fun j u hu => hW.cell (HC.out j u hu))) ?_
      refine wpMix_pureW (.agg (c8 d).toArray) rfl rfl (fun W hW => run_load_op 29 (.tmp 3) rfl Try.underlying29 rfl ⟨w.heap.size, 0, none⟩ rfl _ (info_a32 d HD.out) (row_all (hW.row 0 rfl))) ?_
      refine wpMix_loudW _ rfl rfl ?_
      go_wp2_with fail
      refine (HB.out _).mono ?_
      rintro e w2 ⟨rfl, hg⟩
      have hS2 := hS1.call hg
      clear hg hS1
      obtain ⟨r, hr⟩ : ∃ r, r = belL x d := ⟨_, rfl⟩
      rw [← hr]
      have HR := Lib.hid hr
      clear hr
      go_wp2_with fail
      refine wpMix_next' (fun _ => hS2) ?_
      iterate 1 (refine wpMix_step rfl (fun K hK => ?_); go_simp; (try go_bits); with_reducible refine hK _ ?_; clear hK K)
      unfold wpMix
      cases r with
      | true =>
        go_wp2
        go_roundw
        case rel => exact ⟨k + 1, by omega, by go_num, by rw [HF.out, HST.out, ← HR.out, if_pos rfl]; omega, hS2⟩
        case measure => simp [intOf]; omega
      | false =>
        go_wp2
        go_ret
        exact ⟨by rw [HF.out, HST.out, ← HR.out]; simp, hS2.grown⟩
    · obtain rfl : k = kv.length := by omega
      have q1 : ¬ ((kv.length : Int) < (kv.length : Int)) := by omega
      go_wp2
      have hS1 := hS.drew
      clear hS
      refine wp_region_mixC (fun W => Own w W _) (fun _ => true) [(0, true), (1, true), (2, true), (3, true), (4, true), (5, true), (6, true), (7, true), (8, true), (9, true), (10, true), (11, true), (12, true)] (by kernel_rfl) (by kernel_rfl) hS1 ?_
      iterate 5 (refine wpMix_step rfl (fun K hK => ?_); go_simp; (try go_bits); with_reducible refine hK _ ?_; clear hK K)
      iterate 7 (refine wpMix_skip _ rfl rfl ?_)
      iterate 1 (refine wpMix_step rfl (fun K hK => ?_); go_simp; (try go_bits); with_reducible refine hK _ ?_; clear hK K)
      unfold wpMix
      go_wp2
      go_ret
      exact ⟨by rw [HF.out, List.drop_length]; simp [findR], hS1.grown⟩
set_option maxRecDepth 100000 in
set_option maxHeartbeats 1000000 in
theorem in_any (A : Option Addr) (c n : Nat) (L : List Dg) (d : Dg) (w : World) (hn : L.length = n) (hR : Rows32 w A c L) (hd : d.length = 32) (hl : L.length ≤ 100000) :
    Calls Try.prog 30 #[.slice A n c, dgv d] w fun e w' => e = .returned (.bool (decide (d ∈ L))) ∧ w.grownBy w' none := by
  subst hn
  have HD := Lib.hid hd
  have HL := Lib.hid hl
  have hT := Own.start w
  have HR := Lib.hid hR
  clear hd hl hR
  go_enter Try.func30, Try.ntmps30
  go_wp2_with (refine wp_box (o := ⟨some 3, _, _, _, _, _⟩) rfl 29 (.tmp 1) rfl (c8 d) rfl ?_)
  intro w1 hr hg hz
  clear hz
  have hS := hT.new hr hg
  clear hr hg hT
  go_wp2
  go_loopw [5] (fun i wr => ∃ k : Nat, k ≤ L.length ∧ i = .int .i64 k ∧ d ∉ L.take k ∧ Own w wr [rowE w.heap.size 29 (c8 d)]) (fun i _ => L.length - (intOf i).toNat)
  case atStart => exact ⟨0, by omega, rfl, by simp, hS⟩
  case round =>
    clear hS
    obtain ⟨k, hk, rfl, hn, hS⟩ := hrel
    have HN := Lib.hid hn
    clear hn
    by_cases hlt : k < L.length
    · have q1 : (k : Int) < (L.length : Int) := by omega
      obtain ⟨b, off, rfl, hc⟩ := HR.out.at_ k hlt
      have hx := HR.out.all.at_ k hlt
      have hm : (d ∈ L.take (k + 1)) ↔ (d ∈ L.take k ∨ d = L.getD k []) := by
        rw [List.take_succ_eq_append_getElem hlt, List.mem_append, List.mem_singleton]
        simp [hlt]
      obtain ⟨x, hxe⟩ : ∃ x, x = L.getD k [] := ⟨_, rfl⟩
      rw [← hxe] at hc hx hm
      have HC := Lib.hid hc
      have HX := Lib.hid hx
      have HM := Lib.hid hm
      have heq : ∀ W : World, (Op.equalIn 10000 29 (.agg (c8 x).toArray) (.agg (c8 d).toArray)).run Try.prog W = .ok (decide (x = d)) W := fun W => eq_a32 W x d HX.out HD.out
      obtain ⟨r, hr⟩ : ∃ r, decide (x = d) = r := ⟨_, rfl⟩
      have HR0 := Lib.hid hr
      rw [hr] at heq
      clear hc hx hm hr hxe
      go_wp2
      have hS1 := hS.drew
      clear hS
      refine wp_region_mixC (fun W => Own w W _) (fun _ => true) [(0, true), (1, true), (2, true), (3, true), (4, true), (5, true)] (by kernel_rfl) (by kernel_rfl) hS1 ?_
      iterate 3 (refine wpMix_step rfl (fun K hK => ?_); go_simp; (try go_bits); with_reducible refine hK _ ?_; clear hK K)
      refine wpMix_pureW (.agg (c8 x).toArray) rfl rfl (fun W hW => run_load_op 29 (.tmp 14) rfl Try.underlying29 rfl ⟨b, off + k * 32, none⟩ rfl _ (info_a32 x HX.out) (fun j u hu => hW.cell (HC.out j u hu))) ?_
      refine wpMix_pureW (.agg (c8 d).toArray) rfl rfl (fun W hW => run_load_op 29 (.tmp 3) rfl Try.underlying29 rfl ⟨w.heap.size, 0, none⟩ rfl _ (info_a32 d HD.out) (row_all (hW.row 0 rfl))) ?_
      iterate 1 (refine wpMix_step rfl (fun K hK => ?_); go_simp; (try go_bits); with_reducible refine hK _ ?_; clear hK K)
      unfold wpMix
      cases r with
      | true =>
        go_wp2
        go_ret
        have hdx : x = d := of_decide_eq_true HR0.out
        exact ⟨by rw [decide_eq_true (List.mem_of_mem_take ((HM.out).2 (.inr hdx.symm)))]; rfl, hS1.grown⟩
      | false =>
        have hk2 : (k : Int) < 100000 := by have := HL.out; omega
        go_wp2
        go_roundw
        case rel => exact ⟨k + 1, by omega, by go_num, fun hh => ((HM.out).1 hh).elim HN.out (fun e => of_decide_eq_false HR0.out e.symm), hS1⟩
        case measure => simp [intOf]; omega
    · have hke : k = L.length := by omega
      have q1 : ¬ ((k : Int) < (L.length : Int)) := by omega
      have hno : d ∉ L := by have := HN.out; rwa [hke, List.take_length] at this
      have HNO := Lib.hid hno
      clear hno
      go_wp2
      go_ret
      exact ⟨by rw [decide_eq_false HNO.out]; rfl, hS.grown⟩
set_option maxRecDepth 100000 in
set_option maxHeartbeats 4000000 in
theorem copied_any (A : Option Addr) (c m : Nat) (L : List (List UInt8)) (w : World) (hm : L.length = m) (hL : Rows32 w A c L) (hmax : L.length ≤ 1000000) :
    Calls Try.prog 33 #[.slice A m c] w fun e w' => ∃ v, e = .returned v ∧ OwnsR w' w.heap.size 29 v L ∧ w.grownBy w' none := by
  subst hm
  have HL := Lib.hid hL
  have HM := Lib.hid hmax
  obtain ⟨n, hn⟩ : ∃ n, n = L.length := ⟨_, rfl⟩
  rw [← hn]
  have n1 : (n : Int) ≤ 1000000 := by omega
  have HN := Lib.hid hn
  have hS0 := (Own.start w).nilR w.heap.size 29
  clear hL hmax hn
  go_enter Try.func33, Try.ntmps33
  go_wp2
  go_loopw [3, 4] (fun v iv wr => ∃ k : Nat, k ≤ n ∧ iv = .int .i64 (k : Int) ∧ Own w wr [rowsE w.heap.size 29 v (L.take k)]) (fun _ iv _ => n - (intOf iv).toNat)
  case atStart => exact ⟨0, by omega, rfl, by rw [List.take_zero]; exact hS0⟩
  case round =>
    clear hS0
    obtain ⟨k, hk, rfl, hS⟩ := hrel
    by_cases hlt : k < n
    · have q1 : (k : Int) < (n : Int) := by omega
      have hkL : k < L.length := by have := HN.out; omega
      obtain ⟨b, off, rfl, hat⟩ := (HL.out.keep hS.grown).at_ k hkL
      have hXl := HL.out.all.at_ k hkL
      have htk : L.take (k + 1) = L.take k ++ [L.getD k []] := by rw [List.take_add_one, List.getElem?_eq_getElem hkL]; simp [hkL]
      have htl : (L.take k).length = k := by simp; omega
      obtain ⟨X, hX⟩ : ∃ X, X = L.getD k [] := ⟨_, rfl⟩
      rw [← hX] at hat hXl htk
      have HAT := Lib.hid hat
      have HXD := Lib.hid (info_a32 X hXl)
      have HXL := Lib.hid hXl
      have HTK := Lib.hid htk
      have HTL := Lib.hid htl
      have HK := Lib.hid (show k < n from hlt)
      clear hX hXl hat htk htl hkL hlt hk
      go_wp2_with (first | (refine wp_load rfl 29 (.tmp 14) rfl Try.underlying29 rfl ⟨b, off + k * 32, none⟩ rfl (c8 X) HXD.out HAT.out ?_) | (refine wp_built1 rfl 35 (.tmp 15) rfl 29 Try.underlying35 32 info_za (by omega) (by omega) (c8 X) (by rw [c8_length]; exact HXL.out) rfl ?_))
      intro w7 hr hg
      have hS8 := hS.new hr hg
      clear hS hr hg
      go_wp2_with (refine wp_appR rfl (.tmp 11) (.tmp 16) 35 rfl 29 Try.underlying35 info_ra (L.take k) (L.take (k + 1)) rfl (hS8.rows 1 rfl) _ 1 1 [X] rfl (fun y hy => by rw [List.mem_singleton.1 hy]; exact HXL.out) (by simpa using src_row (hS8.row 0 rfl)) rfl HTK.out (by rw [HTL.out]; have := HK.out; have := HM.out; have := HN.out; simp only [List.length_cons, List.length_nil]; omega) hS8.size ?_)
      intro v' w8 ho hg hv
      have hS9 := (hS8.appendR 1 rfl ho hg (by simpa using hv)).tail
      clear hS8 ho hg hv
      go_wp2
      go_roundw
      case rel => exact ⟨k + 1, by have := HK.out; omega, by go_num, hS9⟩
      case measure => have := HK.out; simp [intOf] <;> omega
    · obtain rfl : k = n := by omega
      rw [List.take_of_length_le (by rw [HN.out]; exact Nat.le_refl _)] at hS
      clear hlt hk
      go_wp2
      go_ret
      exact ⟨_, rfl, hS.rows 0 rfl, hS.grown⟩
set_option maxRecDepth 100000 in
set_option maxHeartbeats 1000000 in
theorem same_any (A A1 : Option Addr) (c c1 n : Nat) (L : List Dg) (w : World) (hn : L.length = n) (hR : Rows32 w A c L) (hR1 : Rows32 w A1 c1 L) (hl : L.length ≤ 100000) :
    Calls Try.prog 15 #[.slice A n c, .slice A1 n c1] w fun e w' => e = .returned (.bool true) ∧ w.grownBy w' none := by
  subst hn
  have HL := Lib.hid hl
  have hS := Own.start w
  have HR := Lib.hid hR
  have HR1 := Lib.hid hR1
  clear hl hR hR1
  go_enter Try.func15, Try.ntmps15
  go_wp2
  go_loopw [13] (fun i wr => ∃ k : Nat, k ≤ L.length ∧ i = .int .i64 k ∧ Own w wr []) (fun i _ => L.length - (intOf i).toNat)
  case atStart => exact ⟨0, by omega, rfl, hS⟩
  case round =>
    clear hS
    obtain ⟨k, hk, rfl, hS⟩ := hrel
    by_cases hlt : k < L.length
    · have q1 : (k : Int) < (L.length : Int) := by omega
      obtain ⟨b, off, rfl, hc⟩ := HR.out.at_ k hlt
      obtain ⟨b1, off1, rfl, hc1⟩ := HR1.out.at_ k hlt
      have hx := HR.out.all.at_ k hlt
      obtain ⟨x, hxe⟩ : ∃ x, x = L.getD k [] := ⟨_, rfl⟩
      rw [← hxe] at hc hx hc1
      have HC := Lib.hid hc
      have HC1 := Lib.hid hc1
      have HX := Lib.hid hx
      have heq : ∀ W : World, (Op.equalIn 10000 30 (.agg (c8 x).toArray) (.agg (c8 x).toArray)).run Try.prog W = .ok true W := fun W => by rw [eq_dg W x x HX.out HX.out, decide_eq_true rfl]
      have hk2 : (k : Int) < 100000 := by have := HL.out; omega
      clear hc hx hc1 hxe
      go_wp2
      have hS1 := hS.drew
      clear hS
      refine wp_region_mixC (fun W => Own w W _) (fun _ => true) [(0, true), (1, true), (2, true), (3, true), (4, true), (5, true), (6, true), (7, true), (8, true)] (by kernel_rfl) (by kernel_rfl) hS1 ?_
      iterate 3 (refine wpMix_step rfl (fun K hK => ?_); go_simp; (try go_bits); with_reducible refine hK _ ?_; clear hK K)
      refine wpMix_pureW (.agg (c8 x).toArray) rfl rfl (fun W hW => run_load_op 30 (.tmp 18) rfl Try.underlying30 rfl ⟨b, off + k * 32, none⟩ rfl _ (info_dg x HX.out) (fun j u hu => hW.cell (HC.out j u hu))) ?_
      iterate 3 (refine wpMix_step rfl (fun K hK => ?_); go_simp; (try go_bits); with_reducible refine hK _ ?_; clear hK K)
      refine wpMix_pureW (.agg (c8 x).toArray) rfl rfl (fun W hW => run_load_op 29 (.tmp 22) rfl Try.underlying29 rfl ⟨b1, off1 + k * 32, none⟩ rfl _ (info_a32 x HX.out) (fun j u hu => hW.cell (HC1.out j u hu))) ?_
      iterate 1 (refine wpMix_step rfl (fun K hK => ?_); go_simp; (try go_bits); with_reducible refine hK _ ?_; clear hK K)
      unfold wpMix
      go_wp2
      go_roundw
      case rel => exact ⟨k + 1, by omega, by go_num, hS1⟩
      case measure => simp [intOf]; omega
    · have hke : k = L.length := by omega
      have q1 : ¬ ((k : Int) < (L.length : Int)) := by omega
      go_wp2
      go_ret
      exact ⟨rfl, hS.grown⟩
end Go.Proofs.Ytnlnkojcbjaeeaa
