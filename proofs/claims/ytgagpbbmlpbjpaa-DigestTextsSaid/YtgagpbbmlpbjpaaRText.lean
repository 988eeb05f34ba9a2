/- The contracts of the document's Hex and Text. -/
import Derived.Test.YtgagpbbmlpbjpaaText
namespace Go.Proofs.Ytgagpbbmlpbjpaa
open Go.RowKit

theorem hexd_n (d : Nat) (h : d < 16) : n8 (hexd d) = if d < 10 then 48 + (d : Int) else 87 + (d : Int) := by
  unfold n8 hexd; rw [UInt8.toNat_ofNat']; split <;> omega
set_option maxRecDepth 100000 in
set_option maxHeartbeats 4000000 in
theorem rhex_any (c : Nat) (A : Option Addr) (p : List UInt8) (w : World) (hp : Bytes w A p) (hl : p.length ≤ 70368744177664) :
    Calls Try.prog 46 #[.slice A p.length c] w fun e w' => e = .returned (.string ⟨(hexOf p).toArray⟩) ∧ w.grownBy w' none := by
  go_enter Try.func46, Try.ntmps46
  go_wp2
  go_loopw [3, 4] (fun sv i wr => ∃ k : Nat, k ≤ p.length ∧ i = .int .i64 k ∧ Own w wr [ownE w.heap.size 5 sv (2 * k) (c8 (hexOf (p.take k)))]) (fun _ i _ => p.length - (intOf i).toNat)
  case atStart => exact ⟨0, by omega, rfl, by simpa [c8, hexOf] using (Own.start w).nilRow w.heap.size 5⟩
  case round =>
    obtain ⟨k, hk, rfl, hS⟩ := hrel
    by_cases hlt : k < p.length
    · obtain ⟨b, off, rfl, hb, hc⟩ := hp.at_ (by omega)
      obtain ⟨x, hx⟩ : ∃ x, x = p.getD k 0 := ⟨_, rfl⟩
      have hc0 := hc k hlt
      rw [← hx] at hc0
      have HC0 := Lib.hid hc0
      have HX := Lib.hid hx
      have q1 : (k : Int) < p.length := by omega
      have hxl := n8_lt x
      clear hx hc hp hc0
      go_wp2
      rename World => wo
      go_loopw [3, 5] (fun sv jv wq => (jv = .int .i64 0 ∧ Own w wq [ownE w.heap.size 5 sv (2 * k) (c8 (hexOf (p.take k)))]) ∨ (jv = .int .i64 1 ∧ Own w wq [ownE w.heap.size 5 sv (2 * k + 1) (c8 (hexOf (p.take k) ++ [hexd (x.toNat / 16)]))]) ∨ (jv = .int .i64 2 ∧ Own w wq [ownE w.heap.size 5 sv (2 * k + 2) (c8 (hexOf (p.take k) ++ hex2 x))])) (fun _ jv _ => (2 - intOf jv).toNat)
      case atStart => exact .inl ⟨rfl, hS⟩
      case round =>
        clear hS
        rcases hrel with ⟨rfl, hS⟩ | ⟨rfl, hS⟩ | ⟨rfl, hS⟩
        · have c0 := hS.cell HC0.out
          have hbo := own_block (hS.own 0 rfl)
          by_cases hd : n8 x / 16 < 10
          · have hdn : x.toNat / 16 < 10 := by unfold n8 at hd; omega
            have HV := Lib.hid (show 48 + n8 x / 16 = n8 (hexd (x.toNat / 16)) by have := (hexd_n (x.toNat / 16) (by omega)); rw [if_pos (by omega)] at this; unfold n8 at *; omega)
            have b1 := n8_lo x
            have b2 := n8_hi x
            go_wp2_with (refine wp_append1 rfl (.tmp 31) (.tmp 34) 22 rfl w.heap.size 5 (.int .u8 0) 1 Try.underlying22 info_u8 rfl _ (2 * k) (c8 (hexOf (p.take k))) rfl ((hS.own 0 rfl).alloc _) _ 1 1 [.int .u8 (48 + n8 x / 16)] rfl (.inr ⟨_, rfl, cell_one_new _ _ _⟩) rfl (by simp [Value.oneCell']) (by unfold maxLen; omega) (by omega) (by simp; have := hS.size; omega) ?_)
            intro v' w1 ho1 hg1 hv1
            rw [HV.out, c8_snoc] at ho1
            have hS1 := (hS.call (World.grownBy_alloc _ _ none)).append 0 rfl ho1 hg1 (by simpa using hv1)
            clear hS ho1 hg1 hv1 hbo
            go_wp2
            go_roundw
            case rel => exact .inr (.inl ⟨rfl, hS1⟩)
            case measure => simp [intOf]
          · have hdn : ¬ x.toNat / 16 < 10 := by unfold n8 at hd; omega
            have HV := Lib.hid (show 97 + n8 x / 16 - 10 = n8 (hexd (x.toNat / 16)) by have := (hexd_n (x.toNat / 16) (by omega)); rw [if_neg (by omega)] at this; unfold n8 at *; omega)
            have b1 := n8_lo x
            have b2 := n8_hi x
            go_wp2_with (refine wp_append1 rfl (.tmp 36) (.tmp 40) 22 rfl w.heap.size 5 (.int .u8 0) 1 Try.underlying22 info_u8 rfl _ (2 * k) (c8 (hexOf (p.take k))) rfl ((hS.own 0 rfl).alloc _) _ 1 1 [.int .u8 (97 + n8 x / 16 - 10)] rfl (.inr ⟨_, rfl, cell_one_new _ _ _⟩) rfl (by simp [Value.oneCell']) (by unfold maxLen; omega) (by omega) (by simp; have := hS.size; omega) ?_)
            intro v' w1 ho1 hg1 hv1
            rw [HV.out, c8_snoc] at ho1
            have hS1 := (hS.call (World.grownBy_alloc _ _ none)).append 0 rfl ho1 hg1 (by simpa using hv1)
            clear hS ho1 hg1 hv1 hbo
            go_wp2
            go_roundw
            case rel => exact .inr (.inl ⟨rfl, hS1⟩)
            case measure => simp [intOf]
        · have c0 := hS.cell HC0.out
          have hbo := own_block (hS.own 0 rfl)
          by_cases hd : n8 x % 16 < 10
          · have hdn : x.toNat % 16 < 10 := by unfold n8 at hd; omega
            have HV := Lib.hid (show 48 + n8 x % 16 = n8 (hexd (x.toNat % 16)) by have := (hexd_n (x.toNat % 16) (by omega)); rw [if_pos (by omega)] at this; unfold n8 at *; omega)
            have b1 := n8_lo x
            have b2 := n8_hi x
            go_wp2_with (refine wp_append1 rfl (.tmp 31) (.tmp 34) 22 rfl w.heap.size 5 (.int .u8 0) 1 Try.underlying22 info_u8 rfl _ (2 * k + 1) (c8 (hexOf (p.take k) ++ [hexd (x.toNat / 16)])) rfl ((hS.own 0 rfl).alloc _) _ 1 1 [.int .u8 (48 + n8 x % 16)] rfl (.inr ⟨_, rfl, cell_one_new _ _ _⟩) rfl (by simp [Value.oneCell']) (by unfold maxLen; omega) (by omega) (by simp; have := hS.size; omega) ?_)
            intro v' w1 ho1 hg1 hv1
            rw [HV.out, c8_snoc, show hexOf (p.take k) ++ [hexd (x.toNat / 16)] ++ [hexd (x.toNat % 16)] = hexOf (p.take k) ++ hex2 x from by simp [hex2]] at ho1
            have hS1 := (hS.call (World.grownBy_alloc _ _ none)).append 0 rfl ho1 hg1 (by simpa using hv1)
            clear hS ho1 hg1 hv1 hbo
            go_wp2
            go_roundw
            case rel => exact .inr (.inr ⟨rfl, hS1⟩)
            case measure => simp [intOf]
          · have hdn : ¬ x.toNat % 16 < 10 := by unfold n8 at hd; omega
            have HV := Lib.hid (show 97 + n8 x % 16 - 10 = n8 (hexd (x.toNat % 16)) by have := (hexd_n (x.toNat % 16) (by omega)); rw [if_neg (by omega)] at this; unfold n8 at *; omega)
            have b1 := n8_lo x
            have b2 := n8_hi x
            go_wp2_with (refine wp_append1 rfl (.tmp 36) (.tmp 40) 22 rfl w.heap.size 5 (.int .u8 0) 1 Try.underlying22 info_u8 rfl _ (2 * k + 1) (c8 (hexOf (p.take k) ++ [hexd (x.toNat / 16)])) rfl ((hS.own 0 rfl).alloc _) _ 1 1 [.int .u8 (97 + n8 x % 16 - 10)] rfl (.inr ⟨_, rfl, cell_one_new _ _ _⟩) rfl (by simp [Value.oneCell']) (by unfold maxLen; omega) (by omega) (by simp; have := hS.size; omega) ?_)
            intro v' w1 ho1 hg1 hv1
            rw [HV.out, c8_snoc, show hexOf (p.take k) ++ [hexd (x.toNat / 16)] ++ [hexd (x.toNat % 16)] = hexOf (p.take k) ++ hex2 x from by simp [hex2]] at ho1
            have hS1 := (hS.call (World.grownBy_alloc _ _ none)).append 0 rfl ho1 hg1 (by simpa using hv1)
            clear hS ho1 hg1 hv1 hbo
            go_wp2
            go_roundw
            case rel => exact .inr (.inr ⟨rfl, hS1⟩)
            case measure => simp [intOf]
        · have hap : hexOf (p.take k) ++ hex2 x = hexOf (p.take (k + 1)) := by rw [take_snoc8 p k hlt, ← HX.out, hexOf_snoc]
          rw [hap] at hS
          go_wp2
          go_roundw
          case rel => exact ⟨k + 1, by omega, by go_num, hS⟩
          case measure => simp [intOf]; omega
    · have hke : k = p.length := by omega
      rw [hke, List.take_length] at hS
      clear hke
      have hcv := run_conv_own (P := Try.prog) wr 22 9 5 Try.underlying22 Try.underlying5 Try.underlying9 (hS.own 0 rfl)
      go_wp2
      go_ret
      exact ⟨rfl, hS.grown⟩

set_option maxRecDepth 100000 in
set_option maxHeartbeats 1000000 in
theorem rtext_any (d : List UInt8) (w : World) (hd : d.length = 32) :
    Calls Try.prog 34 #[.agg (c8 d).toArray] w fun e w' => e = .returned (.string ⟨(textOf d).toArray⟩) ∧ w.grownBy w' none := by
  have HD := Lib.hid hd
  clear hd
  go_enter Try.func34, Try.ntmps34
  go_wp2_with (refine wp_box (o := ⟨some 1, _, _, _, _, _⟩) rfl 24 (.tmp 0) rfl (c8 d) rfl ?_)
  intro w1 hr1 hg1 _
  have hS := (Own.start w).new hr1 hg1
  clear hr1 hg1
  go_wp2_with fail
  have hx := rhex_any 32 _ d w1 (row_bytes (hS.row 0 rfl)) (by rw [HD.out]; omega)
  rw [HD.out] at hx
  refine hx.mono ?_
  rintro e w2 ⟨rfl, hg2⟩
  have hS2 := hS.call hg2
  have hle : (hexOf d).length ≤ 64 := by rw [hexOf_length, HD.out]; omega
  clear hS hx hg2
  go_wp2
  go_ret
  refine ⟨?_, hS2.grown⟩
  congr 2
end Go.Proofs.Ytgagpbbmlpbjpaa
