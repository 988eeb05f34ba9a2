/- The contract of digest.Text; what the law's 'awake' answers. -/
import Derived.Test.YtgagpbbmlpbjpaaHex
import Derived.Test.YtgagpbbmlpbjpaaEq
import Derived.Test.YtgagpbbmlpbjpaaDSum
import Derived.Lib.SlBytesConst
namespace Go.Proofs.Ytgagpbbmlpbjpaa
open Go.RowKit

def textPre : List UInt8 := [115, 104, 97, 50, 53, 54, 58]
def textOf (p : List UInt8) : List UInt8 := textPre ++ hexOf p
theorem row_bytes {w : World} {g : Nat} {t : TypeId} {l : List UInt8} (h : Row w g t (c8 l)) : Bytes w (some ⟨g, 0, none⟩) l := fun _ => ⟨g, 0, rfl, fun j hj => by rw [Nat.zero_add, h.cell, c8_get l j hj]⟩

set_option maxRecDepth 100000 in
set_option maxHeartbeats 1000000 in
theorem text_any (d : List UInt8) (w : World) (hd : d.length = 32) :
    Calls Try.prog 33 #[.agg (c8 d).toArray] w fun e w' => e = .returned (.string ⟨(textOf d).toArray⟩) ∧ w.grownBy w' none := by
  have HD := Lib.hid hd
  clear hd
  go_enter Try.func33, Try.ntmps33
  go_wp2_with (refine wp_box (o := ⟨some 1, _, _, _, _, _⟩) rfl 25 (.tmp 0) rfl (c8 d) rfl ?_)
  intro w1 hr1 hg1 _
  have hS := (Own.start w).new hr1 hg1
  clear hr1 hg1
  go_wp2_with fail
  have hx := hex_any 32 _ d w1 (row_bytes (hS.row 0 rfl)) (by rw [HD.out]; omega)
  rw [HD.out] at hx
  refine hx.mono ?_
  rintro e w2 ⟨rfl, hg2⟩
  have hS2 := hS.call hg2
  have hle : (hexOf d).length ≤ 64 := by rw [hexOf_length, HD.out]; omega
  clear hS hx hg2
  go_wp2
  go_ret
  refine ⟨?_, hS2.grown⟩
  congr 2

theorem sha_abc : sha [97, 98, 99] = [186, 120, 22, 191, 143, 1, 207, 234, 65, 65, 64, 222, 93, 174, 34, 35, 176, 3, 97, 163, 150, 23, 122, 156, 180, 16, 255, 97, 242, 0, 21, 173] := by decide +kernel
theorem sha_nil : sha [] = [227, 176, 196, 66, 152, 252, 28, 20, 154, 251, 244, 200, 153, 111, 185, 36, 39, 174, 65, 228, 100, 155, 147, 76, 164, 149, 153, 27, 120, 82, 184, 85] := by decide +kernel
theorem text_nil : textOf (sha []) = [115, 104, 97, 50, 53, 54, 58, 101, 51, 98, 48, 99, 52, 52, 50, 57, 56, 102, 99, 49, 99, 49, 52, 57, 97, 102, 98, 102, 52, 99, 56, 57, 57, 54, 102, 98, 57, 50, 52, 50, 55, 97, 101, 52, 49, 101, 52, 54, 52, 57, 98, 57, 51, 52, 99, 97, 52, 57, 53, 57, 57, 49, 98, 55, 56, 53, 50, 98, 56, 53, 53] := by rw [sha_nil]; decide +kernel

/-! ### '[]byte("abc")' -/
theorem bytes_const (w : World) (t : TypeId) (l : List UInt8) (m : Nat × Nat) : Bytes (w.alloc (.cells (c8 l).toArray t m)) (some ⟨w.heap.size, 0, none⟩) l := by
  intro _
  refine ⟨w.heap.size, 0, rfl, fun j hj => ?_⟩
  have : (w.alloc (.cells (c8 l).toArray t m)).heap[w.heap.size]? = some (.cells (c8 l).toArray t m) := by
    show (w.heap.push _)[w.heap.size]? = _
    simp
  rw [Nat.zero_add]
  simp only [World.cell?, this]
  simpa using c8_get l j hj

set_option maxRecDepth 100000 in
set_option maxHeartbeats 1000000 in
theorem awake_any (w : World) : Calls Try.prog 11 #[] w fun e w' => e = .returned (.bool true) ∧ w.grownBy w' none := by
  have kc := fun (w : World) (C : Array Value) (n c : Nat) => Lib.run_convert_bytes_const (P := Try.prog) w 22 5 C n c Try.underlying22 Try.underlying5
  go_enter Try.func11, Try.ntmps11
  go_wp2_with fail
  refine (dsum_any 3 _ [97, 98, 99] _ (bytes_const w 5 [97, 98, 99] (3, 4)) (by simp) (by simp) (by simp)).mono ?_
  rintro e w2 ⟨rfl, hg2⟩
  have hS2 := ((Own.start w).call (World.grownBy_alloc w _ none)).call hg2
  clear hg2 kc
  go_wp2_with (first | (refine wp_alloc (o := ⟨some 1, _, _, _, _, _⟩) rfl 25 rfl _ alloc_d ?_))
  intro w3 hr3 hg3 _
  have hS3 := hS2.new hr3 hg3
  clear hS2 hr3 hg3
  go_wp2_with (refine wp_storeAgg rfl 25 (.tmp 1) (.tmp 4) rfl w2.heap.size 0 25 zd (c8 (sha [97, 98, 99])) rfl rfl (hS3.row 0 rfl) (by rw [c8_length, sha_length]; kernel_rfl) (by rw [c8_length, sha_length]; decide) (one8 _) ?_)
  intro w4 hr4 hg4 _
  rw [splice_all (by rw [c8_length, sha_length]; decide), sha_abc] at hr4
  have hS4 := hS3.setRow 0 rfl hr4 hg4
  have c0 : w4.cell? ⟨w2.heap.size, 0, none⟩ = some (.int .u8 186) := hr4.cell 0
  have c31 : w4.cell? ⟨w2.heap.size, 31, none⟩ = some (.int .u8 173) := hr4.cell 31
  clear hS3 hg4
  go_wp2_with fail
  refine (dsum_any 0 none [] _ (Bytes.nil _ _) (by simp) (by simp) (by simp)).mono ?_
  rintro e w5 ⟨rfl, hg5⟩
  have hS5 := hS4.call hg5
  clear hS4 hg5 c0 c31
  go_wp2_with fail
  refine (text_any (sha []) _ (sha_length _)).mono ?_
  rintro e w6 ⟨rfl, hg6⟩
  have hS6 := hS5.call hg6
  clear hS5 hg6
  rw [text_nil]
  go_wp2
  go_ret
  exact ⟨rfl, hS6.grown⟩
end Go.Proofs.Ytgagpbbmlpbjpaa
