/- The order of sums: the contracts of Compare and Below. -/
import Derived.Test.YtgagpbbmlpbjpaaOwn
import Derived.Test.YtgagpbbmlpbjpaaSmall
import Derived.Test.YtgagpbbmlpbjpaaMix2
import Derived.Outline
import Derived.Deep.QuietTactic
import Derived.BigQuiet
namespace Go.Proofs.Ytgagpbbmlpbjpaa
open Go.RowKit

def cmpL : List UInt8 → List UInt8 → Int
  | x :: a, y :: b => if n8 x < n8 y then -1 else if n8 y < n8 x then 1 else cmpL a b
  | _, _ => 0
theorem cmpL_range : ∀ (a b : List UInt8), -1 ≤ cmpL a b ∧ cmpL a b ≤ 1
  | [], _ => by simp [cmpL]
  | _ :: _, [] => by simp [cmpL]
  | x :: a, y :: b => by
    unfold cmpL
    have := cmpL_range a b
    split
    · omega
    · split <;> omega
theorem cmpL_anti : ∀ (a b : List UInt8), cmpL b a = - cmpL a b
  | [], [] => by simp [cmpL]
  | [], _ :: _ => by simp [cmpL]
  | _ :: _, [] => by simp [cmpL]
  | x :: a, y :: b => by
    unfold cmpL
    have := cmpL_anti a b
    by_cases h1 : n8 x < n8 y
    · rw [if_pos h1, if_neg (by omega), if_pos h1]; rfl
    · by_cases h2 : n8 y < n8 x
      · rw [if_pos h2, if_neg h1, if_pos h2]
      · rw [if_neg h2, if_neg h1, if_neg h1, if_neg h2, this]
theorem cmpL_self (a : List UInt8) : cmpL a a = 0 := by have := cmpL_anti a a; omega
theorem cmpL_eq : ∀ (a b : List UInt8), a.length = b.length → cmpL a b = 0 → a = b
  | [], [], _, _ => rfl
  | [], _ :: _, h, _ => by simp at h
  | _ :: _, [], h, _ => by simp at h
  | x :: a, y :: b, h, h0 => by
    unfold cmpL at h0
    by_cases h1 : n8 x < n8 y
    · rw [if_pos h1] at h0; omega
    · rw [if_neg h1] at h0
      by_cases h2 : n8 y < n8 x
      · rw [if_pos h2] at h0; omega
      · rw [if_neg h2] at h0
        rw [n8_inj (show n8 x = n8 y by omega), cmpL_eq a b (by simpa using h) h0]
theorem cmpL_trans : ∀ (a b c : List UInt8), a.length = b.length → b.length = c.length → cmpL a b ≤ 0 → cmpL b c ≤ 0 → cmpL a c ≤ 0
  | [], _, _, _, _, _, _ => by simp [cmpL]
  | _ :: _, [], _, h, _, _, _ => by simp at h
  | _ :: _, _ :: _, [], _, h, _, _ => by simp at h
  | x :: a, y :: b, z :: c, h1, h2, h3, h4 => by
    unfold cmpL at *
    have := cmpL_trans a b c (by simpa using h1) (by simpa using h2)
    by_cases p1 : n8 x < n8 y
    · by_cases p2 : n8 y < n8 z
      · rw [if_pos (by omega)]; omega
      · rw [if_neg p2] at h4
        by_cases p3 : n8 z < n8 y
        · rw [if_pos p3] at h4; omega
        · rw [if_pos (by omega)]; omega
    · rw [if_neg p1] at h3
      by_cases p2 : n8 y < n8 x
      · rw [if_pos p2] at h3; omega
      · rw [if_neg p2] at h3
        by_cases p3 : n8 y < n8 z
        · rw [if_pos (by omega)]; omega
        · rw [if_neg p3] at h4
          by_cases p4 : n8 z < n8 y
          · rw [if_pos p4] at h4; omega
          · rw [if_neg p4] at h4
            rw [if_neg (by omega), if_neg (by omega)]
            exact this h3 h4
theorem cmpL_at : ∀ (k : Nat) (a b : List UInt8), a.take k = b.take k → k < a.length → k < b.length → cmpL a b = if n8 (a.getD k 0) < n8 (b.getD k 0) then -1 else if n8 (b.getD k 0) < n8 (a.getD k 0) then 1 else cmpL (a.drop (k + 1)) (b.drop (k + 1))
  | 0, x :: a, y :: b, _, _, _ => by simp [cmpL]
  | 0, [], _, _, h, _ => by simp at h
  | 0, _ :: _, [], _, _, h => by simp at h
  | k + 1, [], _, _, h, _ => by simp at h
  | k + 1, _ :: _, [], _, _, h => by simp at h
  | k + 1, x :: a, y :: b, h, h1, h2 => by
    simp only [List.take_succ_cons, List.cons.injEq] at h
    have ih := cmpL_at k a b h.2 (by simpa using h1) (by simpa using h2)
    have hn : ¬ n8 y < n8 y := by omega
    rw [h.1]
    simp only [cmpL, if_neg hn, List.getD_cons_succ, List.drop_succ_cons]
    exact ih
theorem take_more {a b : List UInt8} {k : Nat} (h : a.take k = b.take k) (h1 : k < a.length) (h2 : k < b.length) (he : n8 (a.getD k 0) = n8 (b.getD k 0)) : a.take (k + 1) = b.take (k + 1) := by
  rw [take_snoc8 a k h1, take_snoc8 b k h2, h, n8_inj he]

set_option maxRecDepth 100000 in
set_option maxHeartbeats 1000000 in
theorem compare_any (a b : List UInt8) (w : World) (ha : a.length = 32) (hb : b.length = 32) :
    Calls Try.prog 17 #[.agg (c8 a).toArray, .agg (c8 b).toArray] w fun e w' => e = .returned (.int .i64 (cmpL a b)) ∧ w.grownBy w' none := by
  have HA := Lib.hid ha
  have HB := Lib.hid hb
  clear ha hb
  go_enter Try.func17, Try.ntmps17
  go_wp2_with (refine wp_box (o := ⟨some 2, _, _, _, _, _⟩) rfl 25 (.tmp 0) rfl (c8 a) rfl ?_)
  intro w1 hr1 hg1 hz
  clear hz
  have hS1 := (Own.start w).new hr1 hg1
  clear hr1 hg1
  go_wp2_with (refine wp_box (o := ⟨some 3, _, _, _, _, _⟩) rfl 25 (.tmp 1) rfl (c8 b) rfl ?_)
  intro w2 hr2 hg2 hz
  clear hz
  have hS := hS1.new hr2 hg2
  clear hr2 hg2 hS1
  go_wp2
  go_loopw [6] (fun i wr => ∃ k : Nat, k ≤ 32 ∧ i = .int .i64 k ∧ a.take k = b.take k ∧ Own w wr [rowE w1.heap.size 25 (c8 b), rowE w.heap.size 25 (c8 a)]) (fun i _ => 32 - (intOf i).toNat)
  case atStart => exact ⟨0, by omega, rfl, rfl, hS⟩
  case round =>
    clear hS
    obtain ⟨k, hk, rfl, he, hS⟩ := hrel
    have HE := Lib.hid he
    clear he
    by_cases hlt : k < 32
    · have hca := ((hS.row 1 rfl).cell k).trans (c8_get a k (by rw [HA.out]; exact hlt))
      have hcb := ((hS.row 0 rfl).cell k).trans (c8_get b k (by rw [HB.out]; exact hlt))
      have hat := Lib.hid (cmpL_at k a b HE.out (by rw [HA.out]; exact hlt) (by rw [HB.out]; exact hlt))
      have hmore := Lib.hid (take_more HE.out (by rw [HA.out]; exact hlt) (by rw [HB.out]; exact hlt))
      obtain ⟨x, hx⟩ : ∃ x, x = n8 (a.getD k 0) := ⟨_, rfl⟩
      obtain ⟨y, hy⟩ : ∃ y, y = n8 (b.getD k 0) := ⟨_, rfl⟩
      rw [← hx] at hca
      rw [← hy] at hcb
      rw [← hx, ← hy] at hat
      rw [← hx, ← hy] at hmore
      clear hx hy
      have q1 : (k : Int) < 32 := by omega
      rcases Int.lt_trichotomy x y with hxy | hxy | hxy
      · have t1 : decide (x < y) = true := by simpa using hxy
        go_wp2
        go_quiet (fail)
        go_wp2
        go_ret
        exact ⟨by rw [hat.out, if_pos hxy]; rfl, (hS.drewN _).grown⟩
      · have t1 : decide (x < y) = false := by simp; omega
        have t2 : decide (y < x) = false := by simp; omega
        have HM := Lib.hid (hmore.out hxy)
        clear hmore hxy
        go_wp2
        go_quiet (fail)
        go_wp2
        go_quiet (fail)
        go_wp2
        go_roundw
        case rel => exact ⟨k + 1, by omega, by go_num, HM.out, by first | exact (hS.drewN _).drewN _ | exact hS.drewN _⟩
        case measure => simp [intOf]; omega
      · have t1 : decide (x < y) = false := by simp; omega
        have t2 : decide (y < x) = true := by simpa using hxy
        go_wp2
        go_quiet (fail)
        go_wp2
        go_quiet (fail)
        go_wp2
        go_ret
        exact ⟨by rw [hat.out, if_neg (by omega), if_pos hxy]; rfl, by first | exact ((hS.drewN _).drewN _).grown | exact (hS.drewN _).grown⟩
    · have hke : k = 32 := by omega
      have h0 : cmpL a b = 0 := by
        have := HE.out
        rw [List.take_of_length_le (by rw [HA.out]; omega), List.take_of_length_le (by rw [HB.out]; omega)] at this
        rw [this]; exact cmpL_self b
      have H0 := Lib.hid h0
      clear h0
      go_wp2
      go_ret
      exact ⟨by rw [H0.out]; rfl, hS.grown⟩

def belL (a b : List UInt8) : Bool := decide (cmpL a b = -1)
set_option maxRecDepth 100000 in
set_option maxHeartbeats 1000000 in
theorem below_any (a b : List UInt8) (w : World) (ha : a.length = 32) (hb : b.length = 32) :
    Calls Try.prog 18 #[.agg (c8 a).toArray, .agg (c8 b).toArray] w fun e w' => e = .returned (.bool (belL a b)) ∧ w.grownBy w' none := by
  have HA := Lib.hid ha
  have HB := Lib.hid hb
  clear ha hb
  go_enter Try.func18, Try.ntmps18
  go_wp2_with (refine wp_box (o := ⟨some 2, _, _, _, _, _⟩) rfl 24 (.tmp 0) rfl (c8 a) rfl ?_)
  intro w1 hr1 hg1 hz
  clear hz
  have hS1 := (Own.start w).new hr1 hg1
  clear hr1 hg1
  go_wp2_with (refine wp_box (o := ⟨some 3, _, _, _, _, _⟩) rfl 24 (.tmp 1) rfl (c8 b) rfl ?_)
  intro w2 hr2 hg2 hz
  clear hz
  have hS := hS1.new hr2 hg2
  clear hr2 hg2 hS1
  go_wp2
  go_loopw [5] (fun i wr => ∃ k : Nat, k ≤ 32 ∧ i = .int .i64 k ∧ a.take k = b.take k ∧ Own w wr [rowE w1.heap.size 24 (c8 b), rowE w.heap.size 24 (c8 a)]) (fun i _ => 32 - (intOf i).toNat)
  case atStart => exact ⟨0, by omega, rfl, rfl, hS⟩
  case round =>
    clear hS
    obtain ⟨k, hk, rfl, he, hS⟩ := hrel
    have HE := Lib.hid he
    clear he
    by_cases hlt : k < 32
    · have hca := ((hS.row 1 rfl).cell k).trans (c8_get a k (by rw [HA.out]; exact hlt))
      have hcb := ((hS.row 0 rfl).cell k).trans (c8_get b k (by rw [HB.out]; exact hlt))
      have hat := Lib.hid (cmpL_at k a b HE.out (by rw [HA.out]; exact hlt) (by rw [HB.out]; exact hlt))
      have hmore := Lib.hid (take_more HE.out (by rw [HA.out]; exact hlt) (by rw [HB.out]; exact hlt))
      obtain ⟨x, hx⟩ : ∃ x, x = n8 (a.getD k 0) := ⟨_, rfl⟩
      obtain ⟨y, hy⟩ : ∃ y, y = n8 (b.getD k 0) := ⟨_, rfl⟩
      rw [← hx] at hca
      rw [← hy] at hcb
      rw [← hx, ← hy] at hat
      rw [← hx, ← hy] at hmore
      clear hx hy
      have q1 : (k : Int) < 32 := by omega
      rcases Int.lt_trichotomy x y with hxy | hxy | hxy
      · have t1 : (x != y) = true := by rw [bne_iff_ne]; omega
        have t2 : decide (x < y) = true := by simpa using hxy
        go_wp2
        go_quiet (fail)
        go_wp2
        go_quiet (fail)
        go_wp2
        go_ret
        exact ⟨by simp only [belL]; rw [hat.out, if_pos hxy]; rfl, by first | exact ((hS.drewN _).drewN _).grown | exact (hS.drewN _).grown⟩
      · have t1 : (x != y) = false := by simpa using hxy
        have HM := Lib.hid (hmore.out hxy)
        clear hmore hxy
        go_wp2
        go_quiet (fail)
        go_wp2
        go_roundw
        case rel => exact ⟨k + 1, by omega, by go_num, HM.out, by first | exact (hS.drewN _).drewN _ | exact hS.drewN _⟩
        case measure => simp [intOf]; omega
      · have t1 : (x != y) = true := by rw [bne_iff_ne]; omega
        have t2 : decide (x < y) = false := by simp; omega
        go_wp2
        go_quiet (fail)
        go_wp2
        go_quiet (fail)
        go_wp2
        go_ret
        exact ⟨by simp only [belL]; rw [hat.out, if_neg (by omega), if_pos hxy]; rfl, by first | exact ((hS.drewN _).drewN _).grown | exact (hS.drewN _).grown⟩
    · have h0 : cmpL a b = 0 := by
        have := HE.out
        rw [List.take_of_length_le (by rw [HA.out]; omega), List.take_of_length_le (by rw [HB.out]; omega)] at this
        rw [this]; exact cmpL_self b
      have H0 := Lib.hid h0
      clear h0
      go_wp2
      go_ret
      exact ⟨by simp only [belL]; rw [H0.out]; rfl, hS.grown⟩
end Go.Proofs.Ytgagpbbmlpbjpaa
