/- slices.Index, slices.Contains of sums. -/
import Derived.Test.YtnlnkojcbjaeeaaLeaf18
namespace Go.Proofs.Ytnlnkojcbjaeeaa
set_option linter.unusedVariables false
set_option linter.unusedSimpArgs false
set_option linter.unusedSectionVars false
open Go.RowKit
set_option linter.unusedVariables false
theorem mem_take_succ (L : List Dg) (d : Dg) (k : Nat) (hk : k < L.length) : (d ∈ L.take (k + 1)) ↔ (d ∈ L.take k ∨ d = L.getD k []) := by
  rw [List.take_succ_eq_append_getElem hk, List.mem_append, List.mem_singleton]
  simp [hk]
set_option maxRecDepth 100000 in
set_option maxHeartbeats 1000000 in
theorem index_any (A : Option Addr) (c : Nat) (L : List Dg) (d : Dg) (w : World) (hR : Rows32 w A c L) (hd : d.length = 32) (hl : L.length ≤ 4096) :
    Calls Try.prog 45 #[.slice A L.length c, dgv d] w fun e w' => ∃ r : Int, e = .returned (.int .i64 r) ∧ (0 ≤ r ↔ d ∈ L) ∧ w.grownBy w' none := by
  have HD := Lib.hid hd
  have HL := Lib.hid hl
  have hT := Own.start w
  have HR := Lib.hid hR
  clear hd hl hR
  go_enter Try.func45, Try.ntmps45
  go_wp2_with (refine wp_box (o := ⟨some 3, _, _, _, _, _⟩) rfl 30 (.tmp 1) rfl (c8 d) rfl ?_)
  intro w1 hr hg hz
  clear hz
  have hS := hT.new hr hg
  clear hr hg hT
  go_wp2
  go_loopw [8] (fun i wr => ∃ k : Nat, k ≤ L.length ∧ i = .int .i64 k ∧ d ∉ L.take k ∧ Own w wr [rowE w.heap.size 30 (c8 d)]) (fun i _ => L.length - (intOf i).toNat)
  case atStart => exact ⟨0, by omega, rfl, by simp, hS⟩
  case round =>
    clear hS
    obtain ⟨k, hk, rfl, hn, hS⟩ := hrel
    have HN := Lib.hid hn
    clear hn
    by_cases hlt : k < L.length
    · have q1 : (k : Int) < (L.length : Int) := by omega
      obtain ⟨b, off, rfl, hc⟩ := HR.out.at_ k hlt
      have hx := HR.out.all.at_ k hlt
      have hm := mem_take_succ L d k hlt
      obtain ⟨x, hxe⟩ : ∃ x, x = L.getD k [] := ⟨_, rfl⟩
      rw [← hxe] at hc hx hm
      have HC := Lib.hid hc
      have HX := Lib.hid hx
      have HM := Lib.hid hm
      have heq : ∀ W : World, (Op.equalIn 10000 30 (.agg (c8 d).toArray) (.agg (c8 x).toArray)).run Try.prog W = .ok (decide (d = x)) W := fun W => eq_dg W d x HD.out HX.out
      obtain ⟨r, hr⟩ : ∃ r, decide (d = x) = r := ⟨_, rfl⟩
      have HR0 := Lib.hid hr
      rw [hr] at heq
      have HIX := Lib.hid hxe
      clear hc hx hm hr hxe
      go_wp2
      have hS1 := hS.drew
      clear hS
      refine wp_region_mixC (fun W => Own w W _) (fun _ => true) [(0, true), (1, true), (2, true), (3, true), (4, true), (5, true)] (by kernel_rfl) (by kernel_rfl) hS1 ?_
      refine wpMix_pureW (.agg (c8 d).toArray) rfl rfl (fun W hW => run_load_op 30 (.tmp 3) rfl Try.underlying30 rfl ⟨w.heap.size, 0, none⟩ rfl _ (info_dg d HD.out) (row_all (hW.row 0 rfl))) ?_
      iterate 3 (refine wpMix_step rfl (fun K hK => ?_); go_simp; (try go_bits); with_reducible refine hK _ ?_; clear hK K)
      refine wpMix_pureW (.agg (c8 x).toArray) rfl rfl (fun W hW => run_load_op 30 (.tmp 14) rfl Try.underlying30 rfl ⟨b, off + k * 32, none⟩ rfl _ (info_dg x HX.out) (fun j u hu => hW.cell (HC.out j u hu))) ?_
      iterate 1 (refine wpMix_step rfl (fun K hK => ?_); go_simp; (try go_bits); with_reducible refine hK _ ?_; clear hK K)
      unfold wpMix
      cases r with
      | true =>
        go_wp2
        go_ret
        have hdx : d = x := of_decide_eq_true HR0.out
        exact ⟨_, rfl, ⟨fun _ => List.mem_of_mem_take ((HM.out).2 (.inr hdx)), fun _ => by omega⟩, hS1.grown⟩
      | false =>
        have hk2 : (k : Int) < 4096 := by have := HL.out; omega
        go_wp2
        go_roundw
        case rel => exact ⟨k + 1, by omega, by go_num, fun hh => ((HM.out).1 hh).elim HN.out (of_decide_eq_false HR0.out), hS1⟩
        case measure => simp [intOf]; omega
    · have hke : k = L.length := by omega
      have q1 : ¬ ((k : Int) < (L.length : Int)) := by omega
      have hno : d ∉ L := by have := HN.out; rwa [hke, List.take_length] at this
      have HNO := Lib.hid hno
      clear hno
      go_wp2
      go_ret
      exact ⟨_, rfl, ⟨fun h => absurd h (by decide), fun h => absurd h HNO.out⟩, hS.grown⟩
set_option maxRecDepth 100000 in
set_option maxHeartbeats 1000000 in
theorem contains_any (A : Option Addr) (c : Nat) (L : List Dg) (d : Dg) (w : World) (hR : Rows32 w A c L) (hd : d.length = 32) (hl : L.length ≤ 4096) :
    Calls Try.prog 40 #[.slice A L.length c, dgv d] w fun e w' => e = .returned (.bool (decide (d ∈ L))) ∧ w.grownBy w' none := by
  have HD := Lib.hid hd
  have k1 := fun (W : World) (hg : w.grownBy W none) => index_any A c L d W (hR.keep hg) hd hl
  have hT := Own.start w
  clear hd hl hR
  go_enter Try.func40, Try.ntmps40
  go_wp2_with (refine wp_box (o := ⟨some 3, _, _, _, _, _⟩) rfl 30 (.tmp 1) rfl (c8 d) rfl ?_)
  intro w1 hr hg hz
  clear hz
  have hS := hT.new hr hg
  clear hr hg hT
  go_wp2_with (refine wp_load rfl 30 (.tmp 3) rfl Try.underlying30 rfl ⟨w.heap.size, 0, none⟩ rfl (c8 d) (info_dg d HD.out) (row_all (hS.row 0 rfl)) ?_)
  go_wp2_with fail
  refine (k1 _ hS.grown).mono ?_
  rintro e w2 ⟨r, rfl, hi, hg⟩
  have hS2 := hS.call hg
  clear hg hS k1
  have hb : decide (0 ≤ r) = decide (d ∈ L) := by rw [decide_eq_decide]; exact hi
  have HB := Lib.hid hb
  clear hb hi
  go_wp2
  go_ret
  exact ⟨by rw [← HB.out]; rfl, hS2.grown⟩
end Go.Proofs.Ytnlnkojcbjaeeaa
