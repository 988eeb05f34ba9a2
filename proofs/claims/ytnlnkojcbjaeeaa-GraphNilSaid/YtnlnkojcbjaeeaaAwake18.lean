/- The law's awake. -/
import Derived.Test.YtnlnkojcbjaeeaaState18
namespace Go.Proofs.Ytnlnkojcbjaeeaa
set_option linter.unusedVariables false
set_option linter.unusedSimpArgs false
set_option linter.unusedSectionVars false
open Go.RowKit
set_option linter.unusedVariables false
section
variable {w0 w : World} {L : List Ent} {a b c g m x : Ent}
theorem Own.sink2 (h : Own w0 w (x :: a :: b :: L)) : Own w0 w (a :: b :: x :: L) := h.perm ((List.Perm.swap a x _).trans (List.Perm.cons a (List.Perm.swap b x _)))
theorem Own.drop2 (h : Own w0 w (a :: b :: x :: L)) : Own w0 w (a :: b :: L) := h.sub ((((List.Sublist.refl _).cons _).cons_cons _).cons_cons _)
theorem Own.toG (h : Own w0 w (a :: b :: c :: g :: m :: L)) : Own w0 w (g :: m :: a :: b :: c :: L) :=
  h.perm (by
    have := (List.perm_append_comm (l₁ := [a, b, c]) (l₂ := [g, m])).append_right L
    simpa using this)
theorem Own.toK (h : Own w0 w (g :: m :: a :: b :: c :: L)) : Own w0 w (a :: b :: c :: g :: m :: L) :=
  h.perm (by
    have := (List.perm_append_comm (l₁ := [g, m]) (l₂ := [a, b, c])).append_right L
    simpa using this)
theorem Own.toG' (h : Own w0 w [a, b, c, g, m]) : Own w0 w [g, m, a, b, c] := h.perm (by simpa using (List.perm_append_comm (l₁ := [a, b, c]) (l₂ := [g, m])))
theorem Own.swap12 (h : Own w0 w (a :: b :: c :: L)) : Own w0 w (a :: c :: b :: L) := h.perm (List.Perm.cons a (List.Perm.swap c b L))
end
theorem EdgesIn.more {es : List Ent} {kv : KV} {ns : Nodes} {x : Ent} (h : EdgesIn es kv ns) : EdgesIn (x :: es) kv ns := h.mono fun _ hx => List.mem_cons_of_mem _ hx
theorem L32.one {a : Dg} (h : a.length = 32) : L32 [a] := fun y hy => by rw [List.mem_singleton.1 hy]; exact h
theorem L32.two {a b : Dg} (h : a.length = 32) (k : b.length = 32) : L32 [a, b] := fun y hy => by
  rcases List.mem_cons.1 hy with rfl | hy
  · exact h
  · rw [List.mem_singleton.1 hy]; exact k
def a1 : Dg := 1 :: List.replicate 31 0
def a2 : Dg := 2 :: List.replicate 31 0
def a3 : Dg := 3 :: List.replicate 31 0
def nsA (d1 d2 d3 : Dg) : Nodes := putN (putN (putN [] d1 [d2, d3]) d2 []) d3 [d1]
set_option maxRecDepth 100000 in
set_option maxHeartbeats 8000000 in
theorem awake_core (d1 d2 d3 : Dg) (w : World) (h1 : Hid (d1.length = 32)) (h2 : Hid (d2.length = 32)) (h3 : Hid (d3.length = 32))
    (b1 : Try.prog.built 30 [(0, .int .u8 1)] = some (c8 d1).toArray) (b2 : Try.prog.built 30 [(0, .int .u8 2)] = some (c8 d2).toArray) (b3 : Try.prog.built 30 [(0, .int .u8 3)] = some (c8 d3).toArray)
    (f1 : Hid ((nsA d1 d2 d3).length ≤ 4096)) (f2 : Hid (∀ p ∈ nsA d1 d2 d3, p.2.length ≤ 4096)) (f3 : Hid (pot (nsA d1 d2 d3) ([d1], []) ≤ 100000)) (f4 : Hid (pot (nsA d1 d2 d3) ([d2], []) ≤ 100000)) (f5 : Hid (pot (nsA d1 d2 d3) ([d3], []) ≤ 100000))
    (g1 : Hid ((reachB (nsA d1 d2 d3) [d2]).length = 1)) (g2 : Hid ((reachB (nsA d1 d2 d3) [d3]).length = 3)) (g3 : Hid (countN d2 (nsA d1 d2 d3) = 1))
    (g4 : Hid (stepM (nsA d1 d2 d3) 1 ([d1], []) = ([d2, d3], [d1]))) (g5 : Hid ((stepM (nsA d1 d2 d3) 9 ([d2, d3], [d1])).1 = [])) :
    Calls Try.prog 14 #[] w fun e w' => e = .returned (.bool true) ∧ w.grownBy w' none := by
  have B1 := Lib.hid b1
  have B2 := Lib.hid b2
  have B3 := Lib.hid b3
  have I1 := Lib.hid (info_dg d1 h1.out)
  have I2 := Lib.hid (info_dg d2 h2.out)
  have I3 := Lib.hid (info_dg d3 h3.out)
  have T1 := Lib.hid (show 0 + (c8 d1).length ≤ zd.length by rw [c8_length, h1.out]; decide)
  have T2 := Lib.hid (show 0 + (c8 d2).length ≤ zd.length by rw [c8_length, h2.out]; decide)
  have T3 := Lib.hid (show 0 + (c8 d3).length ≤ zd.length by rw [c8_length, h3.out]; decide)
  have E1 := Lib.hid (show (c8 d1).length = zd.length by rw [c8_length, h1.out]; decide)
  have E2 := Lib.hid (show (c8 d2).length = zd.length by rw [c8_length, h2.out]; decide)
  have E3 := Lib.hid (show (c8 d3).length = zd.length by rw [c8_length, h3.out]; decide)
  clear b1 b2 b3
  go_enter Try.func14, Try.ntmps14
  go_wp2_with fail
  refine (newG_any w).mono ?_
  rintro e w1 ⟨G, M, rfl, hS1⟩
  go_wp2_with (first | (refine wp_built rfl 30 _ rfl [(0, .int .u8 1)] rfl _ B1.out ?_) | (refine wp_built rfl 30 _ rfl [(0, .int .u8 2)] rfl _ B2.out ?_) | (refine wp_built rfl 30 _ rfl [(0, .int .u8 3)] rfl _ B3.out ?_) | (refine wp_alloc (o := ⟨some 2, _, _, _, _, _⟩) rfl 30 rfl _ alloc_d ?_))
  intro w2 hr hg hz
  clear hz
  have hS2 := hS1.new hr hg
  clear hr hg hS1
  go_wp2_with (refine wp_alloc (o := ⟨some 3, _, _, _, _, _⟩) rfl 30 rfl _ alloc_d ?_)
  intro w3 hr hg hz
  clear hz
  have hS3 := hS2.new hr hg
  clear hr hg
  go_wp2_with (refine wp_alloc (o := ⟨some 4, _, _, _, _, _⟩) rfl 30 rfl _ alloc_d ?_)
  intro w4 hr hg hz
  clear hz
  have hS4 := hS3.new hr hg
  clear hr hg
  clear hS2 hS3
  go_wp2_with (refine wp_storeAgg rfl 30 (.tmp 2) (.tmp 7) rfl w1.heap.size 0 30 zd (c8 d1) rfl rfl (hS4.row 2 rfl) I1.out T1.out (one8 _) ?_)
  intro w5 hr hg hz
  clear hz
  rw [splice_all E1.out] at hr
  have hS5 := hS4.setRow 2 rfl hr hg
  clear hr hg hS4
  go_wp2_with (refine wp_storeAgg rfl 30 (.tmp 3) (.tmp 8) rfl w2.heap.size 0 30 zd (c8 d2) rfl rfl (hS5.row 1 rfl) I2.out T2.out (one8 _) ?_)
  intro w6 hr hg hz
  clear hz
  rw [splice_all E2.out] at hr
  have hS6 := hS5.setRow 1 rfl hr hg
  clear hr hg hS5
  go_wp2_with (refine wp_storeAgg rfl 30 (.tmp 4) (.tmp 9) rfl w3.heap.size 0 30 zd (c8 d3) rfl rfl (hS6.row 0 rfl) I3.out T3.out (one8 _) ?_)
  intro w7 hr hg hz
  clear hz
  rw [splice_all E3.out] at hr
  have hS7 := (hS6.setRow 0 rfl hr hg).toG'
  clear hr hg hS6
  go_wp2_with (first | (refine wp_load rfl 30 (.tmp 2) rfl Try.underlying30 rfl ⟨w1.heap.size, 0, none⟩ rfl (c8 d1) I1.out (row_all (hS7.row 4 rfl)) ?_) | (refine wp_load rfl 30 (.tmp 3) rfl Try.underlying30 rfl ⟨w2.heap.size, 0, none⟩ rfl (c8 d2) I2.out (row_all (hS7.row 3 rfl)) ?_) | (refine wp_load rfl 30 (.tmp 4) rfl Try.underlying30 rfl ⟨w3.heap.size, 0, none⟩ rfl (c8 d3) I3.out (row_all (hS7.row 2 rfl)) ?_) | (refine wp_builtG2 rfl 32 (.tmp 15) (.tmp 16) rfl 30 Try.underlying32 32 info_zd (by omega) (by omega) (c8 d2) (c8 d3) (by rw [c8_length, h2.out]) (by rw [c8_length, h3.out]) rfl rfl ?_))
  intro w8 hr hg
  have hS8 := (hS7.new hr hg).sink2
  clear hg hS7
  have hR8 := Lib.hid (rows_of_row (L := [d2, d3]) (by rw [show c8 [d2, d3].flatten = c8 d2 ++ c8 d3 by simp [c8]]; exact hr) (L32.two h2.out h3.out))
  clear hr
  go_wp2_with fail
  refine (put_st w _ G M [] [] _ d1 _ 2 2 [d2, d3] hS8 .nil h1.out rfl hR8.out (by simp)).mono ?_
  rintro e w9 ⟨rfl, kv9, v9, he9, hS9⟩
  clear hS8
  go_wp2_with (first | (refine wp_load rfl 30 (.tmp 2) rfl Try.underlying30 rfl ⟨w1.heap.size, 0, none⟩ rfl (c8 d1) I1.out (row_all (hS9.row 6 rfl)) ?_) | (refine wp_load rfl 30 (.tmp 3) rfl Try.underlying30 rfl ⟨w2.heap.size, 0, none⟩ rfl (c8 d2) I2.out (row_all (hS9.row 5 rfl)) ?_) | (refine wp_load rfl 30 (.tmp 4) rfl Try.underlying30 rfl ⟨w3.heap.size, 0, none⟩ rfl (c8 d3) I3.out (row_all (hS9.row 4 rfl)) ?_))
  refine (put_st w _ G M kv9 _ _ d2 none 0 0 [] hS9 he9 h2.out rfl (Rows32.none_ _) (by simp)).mono ?_
  rintro e w10 ⟨rfl, kv10, v10, he10, hS10⟩
  clear hS9 he9
  go_wp2_with (first | (refine wp_load rfl 30 (.tmp 2) rfl Try.underlying30 rfl ⟨w1.heap.size, 0, none⟩ rfl (c8 d1) I1.out (row_all (hS10.row 7 rfl)) ?_) | (refine wp_load rfl 30 (.tmp 3) rfl Try.underlying30 rfl ⟨w2.heap.size, 0, none⟩ rfl (c8 d2) I2.out (row_all (hS10.row 6 rfl)) ?_) | (refine wp_load rfl 30 (.tmp 4) rfl Try.underlying30 rfl ⟨w3.heap.size, 0, none⟩ rfl (c8 d3) I3.out (row_all (hS10.row 5 rfl)) ?_) | (refine wp_builtG1 rfl 32 (.tmp 30) rfl 30 Try.underlying32 32 info_zd (by omega) (by omega) (c8 d1) (by rw [c8_length, h1.out]) rfl ?_))
  intro w11 hr hg
  have hS11 := (hS10.new hr hg).sink2
  clear hg hS10
  have hR11 := Lib.hid (rows_of_row (L := [d1]) (by rw [show c8 [d1].flatten = c8 d1 by simp [c8]]; exact hr) (L32.one h1.out))
  clear hr
  go_wp2_with fail
  refine (put_st w _ G M kv10 _ _ d3 _ 1 1 [d1] hS11 he10.more h3.out rfl hR11.out (by simp)).mono ?_
  rintro e w12 ⟨rfl, kv, v12, he, hS12⟩
  clear hS11 he10
  go_wp2_with (first | (refine wp_load rfl 30 (.tmp 2) rfl Try.underlying30 rfl ⟨w1.heap.size, 0, none⟩ rfl (c8 d1) I1.out (row_all (hS12.row 9 rfl)) ?_) | (refine wp_load rfl 30 (.tmp 3) rfl Try.underlying30 rfl ⟨w2.heap.size, 0, none⟩ rfl (c8 d2) I2.out (row_all (hS12.row 8 rfl)) ?_) | (refine wp_load rfl 30 (.tmp 4) rfl Try.underlying30 rfl ⟨w3.heap.size, 0, none⟩ rfl (c8 d3) I3.out (row_all (hS12.row 7 rfl)) ?_) | (refine wp_builtG1 rfl 32 (.tmp 36) rfl 30 Try.underlying32 32 info_zd (by omega) (by omega) (c8 d1) (by rw [c8_length, h1.out]) rfl ?_))
  intro w13 hr hg
  have hS13 := (hS12.new hr hg).sink2
  clear hg hS12
  have hR13 := Lib.hid (rows_of_row (L := [d1]) (by rw [show c8 [d1].flatten = c8 d1 by simp [c8]]; exact hr) (L32.one h1.out))
  clear hr
  go_wp2_with fail
  refine (mark_any w13 G (some ⟨_, 0, none⟩) 1 [d1] hR13.out (by simp)).mono ?_
  rintro e w14 ⟨K, B, v14, rfl, hT⟩
  have hS14 := ((hS13.join hT).lowerQ 2 rfl)
  simp only [List.cons_append, List.nil_append, List.set_cons_zero, List.set_cons_succ] at hS14
  have hS15 := hS14.toG
  have he15l := he.more (x := rowE w12.heap.size 30 (c8 d1))
  have he15 := (((he.more (x := rowE w12.heap.size 30 (c8 d1))).more (x := qE w.heap.size v14 [d1])).more (x := mapE B [])).more (x := kE K G v14 B)
  clear hT hS13 hS14 he
  go_wp2_with (first | (refine wp_load rfl 30 (.tmp 3) rfl Try.underlying30 rfl ⟨w2.heap.size, 0, none⟩ rfl (c8 d2) I2.out (row_all (hS15.row 12 rfl)) ?_) | (refine wp_builtG1 rfl 32 (.tmp 43) rfl 30 Try.underlying32 32 info_zd (by omega) (by omega) (c8 d2) (by rw [c8_length, h2.out]) rfl ?_))
  intro w16 hr hg
  have hS16a := (hS15.new hr hg).sink2
  have hRr := Lib.hid (rows_of_row (L := [d2]) (by rw [show c8 [d2].flatten = c8 d2 by simp [c8]]; exact hr) (L32.one h2.out))
  clear hr hg hS15
  go_wp2_with fail
  refine (reach_any w _ G M kv (nsA d1 d2 d3) _ (some ⟨_, 0, none⟩) 1 [d2] hS16a he15.more f2.out f1.out hRr.out (by simp) f4.out).mono ?_
  rintro e w16b ⟨vr, R, rfl, hp, hri, hS16b⟩
  have hRl : R.length = 1 := by rw [hp.length_eq]; exact g1.out
  obtain ⟨Ar, cr, rfl, -, -⟩ := ownsR_at (hS16b.rows 0 rfl) hRl
  have hS16 := hS16b.tail.drop2
  clear hp hri hRl hS16a hS16b hRr
  go_wp2_with (first | (refine wp_load rfl 30 (.tmp 4) rfl Try.underlying30 rfl ⟨w3.heap.size, 0, none⟩ rfl (c8 d3) I3.out (row_all (hS16.row 11 rfl)) ?_) | (refine wp_builtG1 rfl 32 (.tmp 51) rfl 30 Try.underlying32 32 info_zd (by omega) (by omega) (c8 d3) (by rw [c8_length, h3.out]) rfl ?_))
  intro w17 hr hg
  have hS17a := (hS16.new hr hg).sink2
  have hRr := Lib.hid (rows_of_row (L := [d3]) (by rw [show c8 [d3].flatten = c8 d3 by simp [c8]]; exact hr) (L32.one h3.out))
  clear hr hg hS16
  go_wp2_with fail
  refine (reach_any w _ G M kv (nsA d1 d2 d3) _ (some ⟨_, 0, none⟩) 1 [d3] hS17a he15.more f2.out f1.out hRr.out (by simp) f5.out).mono ?_
  rintro e w17b ⟨vr, R, rfl, hp, hri, hS17b⟩
  have hRl : R.length = 3 := by rw [hp.length_eq]; exact g2.out
  obtain ⟨Ar, cr, rfl, -, -⟩ := ownsR_at (hS17b.rows 0 rfl) hRl
  have hS17 := hS17b.tail.drop2
  clear hp hri hRl hS17a hS17b hRr
  go_wp2_with (refine wp_load rfl 30 (.tmp 3) rfl Try.underlying30 rfl ⟨w2.heap.size, 0, none⟩ rfl (c8 d2) I2.out (row_all (hS17.row 12 rfl)) ?_)
  refine (refs_any w _ G M kv _ d2 (nsA d1 d2 d3) h2.out hS17 he15 f2.out f1.out).mono ?_
  rintro e w18 ⟨rfl, hg⟩
  have hS18 := hS17.call hg
  rw [g3.out]
  clear hg hS17
  go_wp2_with fail
  refine (step_any w _ K G M B w.heap.size v14 [] [d1] kv (nsA d1 d2 d3) _ 1 (Nat.le_refl _) (by omega) (by intro p hp; cases hp) (he15l) f2.out f3.out hS18.toK).mono ?_
  have e1 : stepM (nsA d1 d2 d3) (Int.toNat 1) ([d1], keysOf []) = ([d2, d3], [d1]) := g4.out
  rw [e1]
  rintro e w19 ⟨v19, blk19, rfl, hU19, hk19, hS19⟩
  have hp19 : pot (nsA d1 d2 d3) ([d2, d3], keysOf blk19) ≤ 100000 := by
    have := pot_step (nsA d1 d2 d3) 1 ([d1], [])
    rw [g4.out] at this
    rw [hk19]
    exact Nat.le_trans this f3.out
  rw [show (decide ((([d2, d3], [d1]) : Mk).1 = [])) = false by simp]
  clear hS18 e1
  go_wp2_with fail
  refine (left_any w _ K G B v19 [d2, d3] _ w.heap.size hS19.swap12).mono ?_
  rintro e w20 ⟨rfl, hg⟩
  have hS20 := hS19.call hg
  rw [show ((([d2, d3] : List Dg).length : Nat) : Int) = 2 from rfl]
  clear hg hS19
  go_wp2_with fail
  refine (step_any w _ K G M B w.heap.size v19 blk19 [d2, d3] kv (nsA d1 d2 d3) _ 9 (Nat.le_refl _) (by omega) hU19 he15l f2.out hp19 hS20).mono ?_
  have e2 : stepM (nsA d1 d2 d3) (Int.toNat 9) ([d2, d3], keysOf blk19) = stepM (nsA d1 d2 d3) 9 ([d2, d3], [d1]) := by rw [hk19]; rfl
  rw [e2]
  rintro e w21 ⟨v21, blk21, rfl, hU21, hk21, hS21⟩
  rw [g5.out]
  rw [show (decide (([] : List Dg) = [])) = true by simp]
  have hG := hS21.grown
  clear hS20 e2 hS21 hU21 hk21 hp19 hU19 hk19
  go_wp2
  go_ret
  exact ⟨rfl, hG⟩
theorem built1 : Try.prog.built 30 [(0, .int .u8 1)] = some (c8 a1).toArray := by kernel_rfl
theorem built2 : Try.prog.built 30 [(0, .int .u8 2)] = some (c8 a2).toArray := by kernel_rfl
theorem built3 : Try.prog.built 30 [(0, .int .u8 3)] = some (c8 a3).toArray := by kernel_rfl
theorem awake_any (w : World) : Calls Try.prog 14 #[] w fun e w' => e = .returned (.bool true) ∧ w.grownBy w' none :=
  awake_core a1 a2 a3 w (Lib.hid rfl) (Lib.hid rfl) (Lib.hid rfl) built1 built2 built3 (Lib.hid (by decide +kernel)) (Lib.hid (by decide +kernel)) (Lib.hid (by decide +kernel)) (Lib.hid (by decide +kernel)) (Lib.hid (by decide +kernel))
    (Lib.hid (by decide +kernel)) (Lib.hid (by decide +kernel)) (Lib.hid (by decide +kernel)) (Lib.hid (by decide +kernel)) (Lib.hid (by decide +kernel))
end Go.Proofs.Ytnlnkojcbjaeeaa
