/- The contracts of Hex and Text. -/
import Derived.Test.YtgagpbbmlpbjpaaOwn
import Derived.Test.YtgagpbbmlpbjpaaMix2
import Derived.Test.YtgagpbbmlpbjpaaSmall
import Derived.Outline
namespace Go.Proofs.Ytgagpbbmlpbjpaa
open Go.RowKit

def hexd (n : Nat) : UInt8 := UInt8.ofNat (if n < 10 then 48 + n else 87 + n)
def hex2 (x : UInt8) : List UInt8 := [hexd (x.toNat / 16), hexd (x.toNat % 16)]
def hexOf (p : List UInt8) : List UInt8 := p.flatMap hex2
theorem hexOf_length (p : List UInt8) : (hexOf p).length = 2 * p.length := by
  induction p with
  | nil => rfl
  | cons x p ih => simp only [hexOf, List.flatMap_cons, List.length_append] at ih ⊢; rw [ih]; simp [hex2]; omega
theorem hexOf_snoc (p : List UInt8) (x : UInt8) : hexOf (p ++ [x]) = hexOf p ++ hex2 x := by simp [hexOf]
theorem hex_i0 (W : World) : (Instr.index 9 (.string ⟨#[48, 49, 50, 51, 52, 53, 54, 55, 56, 57, 97, 98, 99, 100, 101, 102]⟩) (.int .u8 0)).run Try.prog W = .ok (.int .u8 (n8 (hexd 0))) W := by kernel_rfl
theorem hex_i1 (W : World) : (Instr.index 9 (.string ⟨#[48, 49, 50, 51, 52, 53, 54, 55, 56, 57, 97, 98, 99, 100, 101, 102]⟩) (.int .u8 1)).run Try.prog W = .ok (.int .u8 (n8 (hexd 1))) W := by kernel_rfl
theorem hex_i2 (W : World) : (Instr.index 9 (.string ⟨#[48, 49, 50, 51, 52, 53, 54, 55, 56, 57, 97, 98, 99, 100, 101, 102]⟩) (.int .u8 2)).run Try.prog W = .ok (.int .u8 (n8 (hexd 2))) W := by kernel_rfl
theorem hex_i3 (W : World) : (Instr.index 9 (.string ⟨#[48, 49, 50, 51, 52, 53, 54, 55, 56, 57, 97, 98, 99, 100, 101, 102]⟩) (.int .u8 3)).run Try.prog W = .ok (.int .u8 (n8 (hexd 3))) W := by kernel_rfl
theorem hex_i4 (W : World) : (Instr.index 9 (.string ⟨#[48, 49, 50, 51, 52, 53, 54, 55, 56, 57, 97, 98, 99, 100, 101, 102]⟩) (.int .u8 4)).run Try.prog W = .ok (.int .u8 (n8 (hexd 4))) W := by kernel_rfl
theorem hex_i5 (W : World) : (Instr.index 9 (.string ⟨#[48, 49, 50, 51, 52, 53, 54, 55, 56, 57, 97, 98, 99, 100, 101, 102]⟩) (.int .u8 5)).run Try.prog W = .ok (.int .u8 (n8 (hexd 5))) W := by kernel_rfl
theorem hex_i6 (W : World) : (Instr.index 9 (.string ⟨#[48, 49, 50, 51, 52, 53, 54, 55, 56, 57, 97, 98, 99, 100, 101, 102]⟩) (.int .u8 6)).run Try.prog W = .ok (.int .u8 (n8 (hexd 6))) W := by kernel_rfl
theorem hex_i7 (W : World) : (Instr.index 9 (.string ⟨#[48, 49, 50, 51, 52, 53, 54, 55, 56, 57, 97, 98, 99, 100, 101, 102]⟩) (.int .u8 7)).run Try.prog W = .ok (.int .u8 (n8 (hexd 7))) W := by kernel_rfl
theorem hex_i8 (W : World) : (Instr.index 9 (.string ⟨#[48, 49, 50, 51, 52, 53, 54, 55, 56, 57, 97, 98, 99, 100, 101, 102]⟩) (.int .u8 8)).run Try.prog W = .ok (.int .u8 (n8 (hexd 8))) W := by kernel_rfl
theorem hex_i9 (W : World) : (Instr.index 9 (.string ⟨#[48, 49, 50, 51, 52, 53, 54, 55, 56, 57, 97, 98, 99, 100, 101, 102]⟩) (.int .u8 9)).run Try.prog W = .ok (.int .u8 (n8 (hexd 9))) W := by kernel_rfl
theorem hex_i10 (W : World) : (Instr.index 9 (.string ⟨#[48, 49, 50, 51, 52, 53, 54, 55, 56, 57, 97, 98, 99, 100, 101, 102]⟩) (.int .u8 10)).run Try.prog W = .ok (.int .u8 (n8 (hexd 10))) W := by kernel_rfl
theorem hex_i11 (W : World) : (Instr.index 9 (.string ⟨#[48, 49, 50, 51, 52, 53, 54, 55, 56, 57, 97, 98, 99, 100, 101, 102]⟩) (.int .u8 11)).run Try.prog W = .ok (.int .u8 (n8 (hexd 11))) W := by kernel_rfl
theorem hex_i12 (W : World) : (Instr.index 9 (.string ⟨#[48, 49, 50, 51, 52, 53, 54, 55, 56, 57, 97, 98, 99, 100, 101, 102]⟩) (.int .u8 12)).run Try.prog W = .ok (.int .u8 (n8 (hexd 12))) W := by kernel_rfl
theorem hex_i13 (W : World) : (Instr.index 9 (.string ⟨#[48, 49, 50, 51, 52, 53, 54, 55, 56, 57, 97, 98, 99, 100, 101, 102]⟩) (.int .u8 13)).run Try.prog W = .ok (.int .u8 (n8 (hexd 13))) W := by kernel_rfl
theorem hex_i14 (W : World) : (Instr.index 9 (.string ⟨#[48, 49, 50, 51, 52, 53, 54, 55, 56, 57, 97, 98, 99, 100, 101, 102]⟩) (.int .u8 14)).run Try.prog W = .ok (.int .u8 (n8 (hexd 14))) W := by kernel_rfl
theorem hex_i15 (W : World) : (Instr.index 9 (.string ⟨#[48, 49, 50, 51, 52, 53, 54, 55, 56, 57, 97, 98, 99, 100, 101, 102]⟩) (.int .u8 15)).run Try.prog W = .ok (.int .u8 (n8 (hexd 15))) W := by kernel_rfl
theorem hex_index (W : World) (m : Nat) (hm : m < 16) : (Instr.index 9 (.string ⟨#[48, 49, 50, 51, 52, 53, 54, 55, 56, 57, 97, 98, 99, 100, 101, 102]⟩) (.int .u8 (m : Int))).run Try.prog W = .ok (.int .u8 (n8 (hexd m))) W := by
  match m, hm with
  | 0, _ => exact hex_i0 W
  | 1, _ => exact hex_i1 W
  | 2, _ => exact hex_i2 W
  | 3, _ => exact hex_i3 W
  | 4, _ => exact hex_i4 W
  | 5, _ => exact hex_i5 W
  | 6, _ => exact hex_i6 W
  | 7, _ => exact hex_i7 W
  | 8, _ => exact hex_i8 W
  | 9, _ => exact hex_i9 W
  | 10, _ => exact hex_i10 W
  | 11, _ => exact hex_i11 W
  | 12, _ => exact hex_i12 W
  | 13, _ => exact hex_i13 W
  | 14, _ => exact hex_i14 W
  | 15, _ => exact hex_i15 W
  | m + 16, h => omega

theorem hex_hi (x : UInt8) : n8 x / 16 = ((x.toNat / 16 : Nat) : Int) ∧ x.toNat / 16 < 16 := by unfold n8; have := x.toNat_lt; omega
theorem hex_lo (x : UInt8) : n8 x % 16 = ((x.toNat % 16 : Nat) : Int) ∧ x.toNat % 16 < 16 := by unfold n8; omega

set_option maxRecDepth 100000 in
set_option maxHeartbeats 1000000 in
theorem hex_any (c : Nat) (A : Option Addr) (p : List UInt8) (w : World) (hp : Bytes w A p) (hl : p.length ≤ 70368744177664) :
    Calls Try.prog 45 #[.slice A p.length c] w fun e w' => e = .returned (.string ⟨(hexOf p).toArray⟩) ∧ w.grownBy w' none := by
  go_enter Try.func45, Try.ntmps45
  go_wp2_with (refine wp_make rfl 22 (.const (.int .i64 0)) (.tmp 8) rfl 5 (.int .u8 0) 1 Try.underlying22 (by kernel_rfl) rfl 0 (2 * p.length) rfl ?_ (by omega) (by omega) (by omega) ?_)
  · show Value.int .i64 (2 * (p.length : Int)) = .int .i64 ((2 * p.length : Nat) : Int)
    congr 1
  intro w1 hr1 hg1 _
  have hS : Own w w1 [ownE w.heap.size 5 (.slice (some ⟨w.heap.size, 0, none⟩) 0 (2 * p.length)) 0 []] :=
    (Own.start w).newE hg1 (ownE_good _ _ _ _ _) (show w1.ownsRow _ _ _ _ _ _ by simpa using own_of_row (xs := []) hr1 _ (Nat.le_refl _) (by unfold maxLen; simp; omega)) (fun k hk => by cases hk; exact Nat.le_refl _)
  clear hr1 hg1
  go_wp2
  go_loopw [3, 12] (fun sv i wr => ∃ k : Nat, k ≤ p.length ∧ i = .int .i64 k ∧ Own w wr [ownE w.heap.size 5 sv (2 * k) (c8 (hexOf (p.take k)))]) (fun _ i _ => p.length - (intOf i).toNat)
  case atStart => exact ⟨0, by omega, rfl, by simpa [c8, hexOf] using hS⟩
  case round =>
    clear hS
    obtain ⟨k, hk, rfl, hS⟩ := hrel
    by_cases hlt : k < p.length
    · obtain ⟨b, off, rfl, hb, hc⟩ := hp.at_ (by omega)
      have c0 := hS.cell (hc k hlt)
      obtain ⟨x, hx⟩ : ∃ x, x = p.getD k 0 := ⟨_, rfl⟩
      rw [← hx] at c0
      have HX := Lib.hid hx
      have q1 : (k : Int) < p.length := by omega
      clear hx hc hp
      have hi1 : ∀ W, (Instr.index 9 (.string ⟨#[48, 49, 50, 51, 52, 53, 54, 55, 56, 57, 97, 98, 99, 100, 101, 102]⟩) (.int .u8 (n8 x / 16))).run Try.prog W = .ok (.int .u8 (n8 (hexd (x.toNat / 16)))) W := fun W => by rw [(hex_hi x).1]; exact hex_index W _ (hex_hi x).2
      have hi2 : ∀ W, (Instr.index 9 (.string ⟨#[48, 49, 50, 51, 52, 53, 54, 55, 56, 57, 97, 98, 99, 100, 101, 102]⟩) (.int .u8 (n8 x % 16))).run Try.prog W = .ok (.int .u8 (n8 (hexd (x.toNat % 16)))) W := fun W => by rw [(hex_lo x).1]; exact hex_index W _ (hex_lo x).2
      have b1 := n8_lo x
      have b2 := n8_hi x
      go_wp2
      refine wp_region_mix [(0, true), (1, true), (2, true), (3, true), (4, true), (5, true), (6, true), (7, false), (8, false), (9, false)] (by kernel_rfl) (by kernel_rfl) ?_
      iterate 7 (refine wpMix_step rfl (fun K hK => ?_); go_simp; (try go_bits); with_reducible refine hK _ ?_; clear hK K)
      refine wpMix_loud _ rfl rfl ?_
      go_wp2_with fail
      refine wpMix_next' (fun _ => trivial) ?_
      refine wpMix_loud _ rfl rfl ?_
      have hb2 := own_block (hS.own 0 rfl)
      refine wp_append1 rfl (.tmp 16) (.tmp 23) 22 rfl w.heap.size 5 (.int .u8 0) 1 Try.underlying22 info_u8 rfl _ (2 * k) (c8 (hexOf (p.take k))) rfl ((hS.own 0 rfl).drew.alloc _) _ 2 2 (c8 (hex2 x)) rfl (.inr ⟨_, rfl, ?_⟩) rfl (one8 _) (by unfold maxLen; omega) (by omega) (by simp; have := hS.size; omega) ?_
      · exact row_all (show Row ((wr.alloc (Obj.cells (c8 (hex2 x)).toArray 5)).drew) wr.heap.size 5 (c8 (hex2 x)) from Row.new wr _ _)
      intro v' w2 ho2 hg2 hv2
      have hap : c8 (hexOf (p.take k)) ++ c8 (hex2 x) = c8 (hexOf (p.take (k + 1))) := by
        rw [take_snoc8 p k hlt, ← HX.out, hexOf_snoc]; simp [c8]
      rw [hap, show 2 * k + 2 = 2 * (k + 1) from by omega] at ho2
      have hS2 := (hS.drew.call (World.grownBy_alloc _ _ none)).append 0 rfl ho2 hg2 hv2
      clear hS hi1 hi2 c0 hap ho2 hg2 hv2 hb2
      refine wpMix_next (fun _ => trivial) ?_
      refine wpMix_loud _ rfl rfl ?_
      go_wp2_with fail
      refine wpMix_next' (fun _ => trivial) ?_
      unfold wpMix
      go_wp2
      go_roundw
      case rel => exact ⟨k + 1, by omega, by go_num, hS2⟩
      case measure => simp [intOf]; omega
    · have hke : k = p.length := by omega
      rw [hke, List.take_length] at hS
      clear hke
      have hcv := run_conv_own (P := Try.prog) wr 22 9 5 Try.underlying22 Try.underlying5 Try.underlying9 (hS.own 0 rfl)
      go_wp2
      go_ret
      exact ⟨rfl, hS.grown⟩
end Go.Proofs.Ytgagpbbmlpbjpaa
