/- The order of sums (chapter 18): the contracts of Compare (in the form that the library's sort asks) and of Below. -/
import Derived.Test.YtnlnkojcbjaeeaaBase18
import Derived.Test.YtnlnkojcbjaeeaaMix2
import Derived.Outline
import Derived.Deep.QuietTactic
import Derived.BigQuiet
import Derived.Shelf.SlSortCmp.InsertionK
namespace Go.Proofs.Ytnlnkojcbjaeeaa
set_option linter.unusedVariables false
set_option linter.unusedSimpArgs false
set_option linter.unusedSectionVars false
open Go.RowKit Go.Sort Go.Shelf

def cmpL : List UInt8 → List UInt8 → Int
  | x :: a, y :: b => if n8 x < n8 y then -1 else if n8 y < n8 x then 1 else cmpL a b
  | _, _ => 0
theorem cmpL_range : ∀ (a b : List UInt8), -1 ≤ cmpL a b ∧ cmpL a b ≤ 1
  | [], _ => by simp [cmpL]
  | _ :: _, [] => by simp [cmpL]
  | x :: a, y :: b => by
    unfold cmpL
    have := cmpL_range a b
    split
    · omega
    · split <;> omega
theorem cmpL_anti : ∀ (a b : List UInt8), cmpL b a = - cmpL a b
  | [], [] => by simp [cmpL]
  | [], _ :: _ => by simp [cmpL]
  | _ :: _, [] => by simp [cmpL]
  | x :: a, y :: b => by
    unfold cmpL
    have := cmpL_anti a b
    by_cases h1 : n8 x < n8 y
    · rw [if_pos h1, if_neg (by omega), if_pos h1]; rfl
    · by_cases h2 : n8 y < n8 x
      · rw [if_pos h2, if_neg h1, if_pos h2]
      · rw [if_neg h2, if_neg h1, if_neg h1, if_neg h2, this]
theorem cmpL_self (a : List UInt8) : cmpL a a = 0 := by have := cmpL_anti a a; omega
theorem cmpL_eq : ∀ (a b : List UInt8), a.length = b.length → cmpL a b = 0 → a = b
  | [], [], _, _ => rfl
  | [], _ :: _, h, _ => by simp at h
  | _ :: _, [], h, _ => by simp at h
  | x :: a, y :: b, h, h0 => by
    unfold cmpL at h0
    by_cases h1 : n8 x < n8 y
    · rw [if_pos h1] at h0; omega
    · rw [if_neg h1] at h0
      by_cases h2 : n8 y < n8 x
      · rw [if_pos h2] at h0; omega
      · rw [if_neg h2] at h0
        rw [n8_inj (show n8 x = n8 y by omega), cmpL_eq a b (by simpa using h) h0]
theorem cmpL_trans : ∀ (a b c : List UInt8), a.length = b.length → b.length = c.length → cmpL a b ≤ 0 → cmpL b c ≤ 0 → cmpL a c ≤ 0
  | [], _, _, _, _, _, _ => by simp [cmpL]
  | _ :: _, [], _, h, _, _, _ => by simp at h
  | _ :: _, _ :: _, [], _, h, _, _ => by simp at h
  | x :: a, y :: b, z :: c, h1, h2, h3, h4 => by
    unfold cmpL at *
    have := cmpL_trans a b c (by simpa using h1) (by simpa using h2)
    by_cases p1 : n8 x < n8 y
    · by_cases p2 : n8 y < n8 z
      · rw [if_pos (by omega)]; omega
      · rw [if_neg p2] at h4
        by_cases p3 : n8 z < n8 y
        · rw [if_pos p3] at h4; omega
        · rw [if_pos (by omega)]; omega
    · rw [if_neg p1] at h3
      by_cases p2 : n8 y < n8 x
      · rw [if_pos p2] at h3; omega
      · rw [if_neg p2] at h3
        by_cases p3 : n8 y < n8 z
        · rw [if_pos (by omega)]; omega
        · rw [if_neg p3] at h4
          by_cases p4 : n8 z < n8 y
          · rw [if_pos p4] at h4; omega
          · rw [if_neg p4] at h4
            rw [if_neg (by omega), if_neg (by omega)]
            exact this h3 h4
theorem cmpL_at : ∀ (k : Nat) (a b : List UInt8), a.take k = b.take k → k < a.length → k < b.length → cmpL a b = if n8 (a.getD k 0) < n8 (b.getD k 0) then -1 else if n8 (b.getD k 0) < n8 (a.getD k 0) then 1 else cmpL (a.drop (k + 1)) (b.drop (k + 1))
  | 0, x :: a, y :: b, _, _, _ => by simp [cmpL]
  | 0, [], _, _, h, _ => by simp at h
  | 0, _ :: _, [], _, _, h => by simp at h
  | k + 1, [], _, _, h, _ => by simp at h
  | k + 1, _ :: _, [], _, _, h => by simp at h
  | k + 1, x :: a, y :: b, h, h1, h2 => by
    simp only [List.take_succ_cons, List.cons.injEq] at h
    have ih := cmpL_at k a b h.2 (by simpa using h1) (by simpa using h2)
    have hn : ¬ n8 y < n8 y := by omega
    rw [h.1]
    simp only [cmpL, if_neg hn, List.getD_cons_succ, List.drop_succ_cons]
    exact ih
theorem take_more {a b : List UInt8} {k : Nat} (h : a.take k = b.take k) (h1 : k < a.length) (h2 : k < b.length) (he : n8 (a.getD k 0) = n8 (b.getD k 0)) : a.take (k + 1) = b.take (k + 1) := by
  rw [take_snoc8 a k h1, take_snoc8 b k h2, h, n8_inj he]


abbrev D32 := {l : List UInt8 // l.length = 32}
def encD (x : D32) : List Value := c8 x.1
theorem encD_len (x : D32) : (encD x).length = 32 := by unfold encD; rw [c8_length, x.2]
theorem encD_one (x : D32) : ∀ v ∈ encD x, v.oneCell' = true := one8 _
def cfD (x y : D32) : Int := cmpL x.1 y.1
instance : Inhabited D32 := ⟨⟨List.replicate 32 0, by simp⟩⟩
theorem ltD (x y : D32) : ltOf cfD x y = decide (cmpL x.1 y.1 < 0) := rfl
theorem swoD : SWO (ltOf cfD) where
  irrefl x := by rw [ltD, cmpL_self]; rfl
  trans x y z h1 h2 := by
    rw [ltD] at *
    simp only [decide_eq_true_eq] at *
    have t1 := cmpL_trans x.1 y.1 z.1 (by rw [x.2, y.2]) (by rw [y.2, z.2]) (by omega) (by omega)
    by_cases h0 : cmpL x.1 z.1 = 0
    · have e := cmpL_eq x.1 z.1 (by rw [x.2, z.2]) h0
      rw [e] at h1
      have := cmpL_anti y.1 z.1
      omega
    · omega
  ntrans x y z h1 h2 := by
    rw [ltD] at *
    simp only [decide_eq_false_iff_not] at *
    have a1 := cmpL_anti x.1 y.1
    have a2 := cmpL_anti y.1 z.1
    have a3 := cmpL_anti x.1 z.1
    have t1 := cmpL_trans z.1 y.1 x.1 (by rw [z.2, y.2]) (by rw [y.2, x.2]) (by omega) (by omega)
    omega
theorem totD (x y : D32) (h1 : ltOf cfD x y = false) (h2 : ltOf cfD y x = false) : x = y := by
  rw [ltD] at *
  simp only [decide_eq_false_iff_not] at *
  have a1 := cmpL_anti x.1 y.1
  exact Subtype.ext (cmpL_eq x.1 y.1 (by rw [x.2, y.2]) (by omega))

set_option maxRecDepth 100000 in
set_option maxHeartbeats 1000000 in
theorem compareX_any (a b : List UInt8) (w : World) (ha : a.length = 32) (hb : b.length = 32) :
    Calls Try.prog 43 #[.agg (c8 a).toArray, .agg (c8 b).toArray] w fun e w' => e = .returned (.int .i64 (cmpL a b)) ∧ ∃ q, w' = ((w.alloc (.cells (c8 a).toArray 30)).alloc (.cells (c8 b).toArray 30)).drewN q := by
  have HA := Lib.hid ha
  have HB := Lib.hid hb
  clear ha hb
  obtain ⟨W2, hW2⟩ : ∃ W2, W2 = (w.alloc (.cells (c8 a).toArray 30)).alloc (.cells (c8 b).toArray 30) := ⟨_, rfl⟩
  have hW := Lib.hid hW2
  rw [← hW2]
  have RA : ∀ q, Row (W2.drewN q) w.heap.size 30 (c8 a) := fun q => by
    show Row W2 _ _ _
    rw [hW2]
    exact (heap_alloc_old _ _ (by simp)).trans (Row.new w 30 (c8 a))
  have RB : ∀ q, Row (W2.drewN q) (w.heap.size + 1) 30 (c8 b) := fun q => by
    show Row W2 _ _ _
    rw [hW2]
    have := Row.new (w.alloc (.cells (c8 a).toArray 30)) 30 (c8 b)
    rwa [World.size_alloc] at this
  clear hW2
  go_enter Try.func43, Try.ntmps43
  go_wp2
  rw [← hW.out]
  clear hW
  go_loopw [6] (fun i wr => ∃ k q : Nat, k ≤ 32 ∧ i = .int .i64 k ∧ a.take k = b.take k ∧ wr = W2.drewN q) (fun i _ => 32 - (intOf i).toNat)
  case atStart => exact ⟨0, 0, by omega, rfl, rfl, rfl⟩
  case round =>
    obtain ⟨k, q, hk, rfl, he, rfl⟩ := hrel
    have HE := Lib.hid he
    clear he
    by_cases hlt : k < 32
    · have hca := fun q => ((RA q).cell k).trans (c8_get a k (by rw [HA.out]; exact hlt))
      have hcb := fun q => ((RB q).cell k).trans (c8_get b k (by rw [HB.out]; exact hlt))
      have hat := Lib.hid (cmpL_at k a b HE.out (by rw [HA.out]; exact hlt) (by rw [HB.out]; exact hlt))
      have hmore := Lib.hid (take_more HE.out (by rw [HA.out]; exact hlt) (by rw [HB.out]; exact hlt))
      obtain ⟨x, hx⟩ : ∃ x, x = n8 (a.getD k 0) := ⟨_, rfl⟩
      obtain ⟨y, hy⟩ : ∃ y, y = n8 (b.getD k 0) := ⟨_, rfl⟩
      rw [← hx] at hca
      rw [← hy] at hcb
      rw [← hx, ← hy] at hat
      rw [← hx, ← hy] at hmore
      clear hx hy
      have q1 : (k : Int) < 32 := by omega
      rcases Int.lt_trichotomy x y with hxy | hxy | hxy
      · have t1 : decide (x < y) = true := by simpa using hxy
        go_wp2
        go_quiet (fail)
        go_wp2
        go_ret
        exact ⟨by rw [hat.out, if_pos hxy]; rfl, _, by first | rfl | rw [World.drewN_drewN]⟩
      · have t1 : decide (x < y) = false := by simp; omega
        have t2 : decide (y < x) = false := by simp; omega
        have HM := Lib.hid (hmore.out hxy)
        clear hmore hxy
        go_wp2
        go_quiet (fail)
        go_wp2
        go_quiet (fail)
        go_wp2
        go_roundw
        case rel => exact ⟨k + 1, _, by omega, by go_num, HM.out, by first | rfl | rw [World.drewN_drewN, World.drewN_drewN]⟩
        case measure => simp [intOf]; omega
      · have t1 : decide (x < y) = false := by simp; omega
        have t2 : decide (y < x) = true := by simpa using hxy
        go_wp2
        go_quiet (fail)
        go_wp2
        go_quiet (fail)
        go_wp2
        go_ret
        exact ⟨by rw [hat.out, if_neg (by omega), if_pos hxy]; rfl, _, by first | rfl | (rw [World.drewN_drewN, World.drewN_drewN])⟩
    · have hke : k = 32 := by omega
      have h0 : cmpL a b = 0 := by
        have := HE.out
        rw [List.take_of_length_le (by rw [HA.out]; omega), List.take_of_length_le (by rw [HB.out]; omega)] at this
        rw [this]; exact cmpL_self b
      have H0 := Lib.hid h0
      clear h0
      go_wp2
      go_ret
      exact ⟨by rw [H0.out]; rfl, _, rfl⟩
theorem cmpLaysD (blk off size : Nat) (w : World) : CmpLays Try.prog 43 #[] encD 32 cfD blk off size w := fun m os dk _ x y =>
  (compareX_any x.1 y.1 _ x.2 y.2).mono fun _ _ ⟨he, q, hq⟩ => ⟨he, q, #[.cells (c8 x.1).toArray 30 (0, 0), .cells (c8 y.1).toArray 30 (0, 0)], by
    rw [hq]
    show _ = grow _ _
    rw [alloc_eq_grow, alloc_eq_grow, grow_grow]; rfl⟩

def belL (a b : List UInt8) : Bool := decide (cmpL a b = -1)
set_option maxRecDepth 100000 in
set_option maxHeartbeats 1000000 in
theorem below_any (a b : List UInt8) (w : World) (ha : a.length = 32) (hb : b.length = 32) :
    Calls Try.prog 39 #[.agg (c8 a).toArray, .agg (c8 b).toArray] w fun e w' => e = .returned (.bool (belL a b)) ∧ w.grownBy w' none := by
  have HA := Lib.hid ha
  have HB := Lib.hid hb
  clear ha hb
  go_enter Try.func39, Try.ntmps39
  go_wp2_with (refine wp_box (o := ⟨some 2, _, _, _, _, _⟩) rfl 29 (.tmp 0) rfl (c8 a) rfl ?_)
  intro w1 hr1 hg1 hz
  clear hz
  have hS1 := (Own.start w).new hr1 hg1
  clear hr1 hg1
  go_wp2_with (refine wp_box (o := ⟨some 3, _, _, _, _, _⟩) rfl 29 (.tmp 1) rfl (c8 b) rfl ?_)
  intro w2 hr2 hg2 hz
  clear hz
  have hS := hS1.new hr2 hg2
  clear hr2 hg2 hS1
  go_wp2
  go_loopw [5] (fun i wr => ∃ k : Nat, k ≤ 32 ∧ i = .int .i64 k ∧ a.take k = b.take k ∧ Own w wr [rowE w1.heap.size 29 (c8 b), rowE w.heap.size 29 (c8 a)]) (fun i _ => 32 - (intOf i).toNat)
  case atStart => exact ⟨0, by omega, rfl, rfl, hS⟩
  case round =>
    clear hS
    obtain ⟨k, hk, rfl, he, hS⟩ := hrel
    have HE := Lib.hid he
    clear he
    by_cases hlt : k < 32
    · have hca := ((hS.row 1 rfl).cell k).trans (c8_get a k (by rw [HA.out]; exact hlt))
      have hcb := ((hS.row 0 rfl).cell k).trans (c8_get b k (by rw [HB.out]; exact hlt))
      have hat := Lib.hid (cmpL_at k a b HE.out (by rw [HA.out]; exact hlt) (by rw [HB.out]; exact hlt))
      have hmore := Lib.hid (take_more HE.out (by rw [HA.out]; exact hlt) (by rw [HB.out]; exact hlt))
      obtain ⟨x, hx⟩ : ∃ x, x = n8 (a.getD k 0) := ⟨_, rfl⟩
      obtain ⟨y, hy⟩ : ∃ y, y = n8 (b.getD k 0) := ⟨_, rfl⟩
      rw [← hx] at hca
      rw [← hy] at hcb
      rw [← hx, ← hy] at hat
      rw [← hx, ← hy] at hmore
      clear hx hy
      have q1 : (k : Int) < 32 := by omega
      rcases Int.lt_trichotomy x y with hxy | hxy | hxy
      · have t1 : (x != y) = true := by rw [bne_iff_ne]; omega
        have t2 : decide (x < y) = true := by simpa using hxy
        go_wp2
        go_quiet (fail)
        go_wp2
        go_quiet (fail)
        go_wp2
        go_ret
        exact ⟨by simp only [belL]; rw [hat.out, if_pos hxy]; rfl, by first | exact ((hS.drewN _).drewN _).grown | exact (hS.drewN _).grown⟩
      · have t1 : (x != y) = false := by simpa using hxy
        have HM := Lib.hid (hmore.out hxy)
        clear hmore hxy
        go_wp2
        go_quiet (fail)
        go_wp2
        go_roundw
        case rel => exact ⟨k + 1, by omega, by go_num, HM.out, by first | exact (hS.drewN _).drewN _ | exact hS.drewN _⟩
        case measure => simp [intOf]; omega
      · have t1 : (x != y) = true := by rw [bne_iff_ne]; omega
        have t2 : decide (x < y) = false := by simp; omega
        go_wp2
        go_quiet (fail)
        go_wp2
        go_quiet (fail)
        go_wp2
        go_ret
        exact ⟨by simp only [belL]; rw [hat.out, if_neg (by omega), if_pos hxy]; rfl, by first | exact ((hS.drewN _).drewN _).grown | exact (hS.drewN _).grown⟩
    · have h0 : cmpL a b = 0 := by
        have := HE.out
        rw [List.take_of_length_le (by rw [HA.out]; omega), List.take_of_length_le (by rw [HB.out]; omega)] at this
        rw [this]; exact cmpL_self b
      have H0 := Lib.hid h0
      clear h0
      go_wp2
      go_ret
      exact ⟨by simp only [belL]; rw [H0.out]; rfl, hS.grown⟩
end Go.Proofs.Ytnlnkojcbjaeeaa
