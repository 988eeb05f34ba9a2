/- A frontier: made, loaded, read, one leaf more. -/
import Derived.Test.YtpohjldhbaalbaaOnesLaw
import Derived.Test.YtpohjldhbaalbaaRoot3
import Derived.Test.YtpohjldhbaalbaaNodes3
import Derived.Test.YtpohjldhbaalbaaDag
import Derived.Test.YtpohjldhbaalbaaMerklePaths
import Derived.Test.YtpohjldhbaalbaaBoth3
namespace Go.Proofs.Ytpohjldhbaalbaa
set_option linter.unusedVariables false
set_option linter.unusedSimpArgs false
set_option linter.unusedSectionVars false
open Go.RowKit
set_option linter.unusedVariables false

def frC (n : Nat) (v : Value) : List Value := [.int .i64 (n : Int), v]
theorem ownsR_cut {w : World} {base n c k : Nat} {e : TypeId} {A : Option Addr} {L : List (List UInt8)} (h : OwnsR w base e (.slice A n c) L) (hk : k ≤ L.length) : OwnsR w base e (.slice A k c) (L.take k) := by
  obtain ⟨hall, hl, ho⟩ := h
  have hlt : (L.take k).length = k := by simp; omega
  refine ⟨hall.take k, by rw [hlt, c8_length, flatten_len (hall.take k), hlt], ?_⟩
  rcases ho with ⟨hv, hn⟩ | ⟨g, cap, cur, hv, hb, hg, hnc, hcm, hcs, ht⟩
  · injection hv with h1 h2 h3
    subst h1; subst h3
    exact .inl ⟨by rw [show k = 0 by omega], by omega⟩
  · injection hv with h1 h2 h3
    subst h1; subst h3
    refine .inr ⟨g, c, cur, by rw [hlt], hb, hg, by omega, hcm, hcs, ?_⟩
    rw [hlt, flatten_take k hall]
    have : cur.toList.take (k * 32) = (cur.toList.take (L.length * 32)).take (k * 32) := by rw [List.take_take, Nat.min_eq_left (Nat.mul_le_mul_right 32 hk)]
    rw [this, ht]; simp [c8]
theorem own_slice {w : World} {base n c : Nat} {e : TypeId} {A : Option Addr} {L : List (List UInt8)} (h : OwnsR w base e (.slice A n c) L) : n = L.length ∧ Rows32 w A c L ∧ c ≤ 9223372036854775807 := by
  obtain ⟨A', c', hv, h1, h2⟩ := ownsR_open h
  injection hv with e1 e2 e3
  subst e1; subst e3
  exact ⟨e2, h1, h2⟩

/-! ### how many 1s -/
theorem and64_nat (a b : Nat) (ha : a < 2 ^ 64) (hb : b < 2 ^ 64) : Go.bits .and .u64 (a : Int) (b : Int) = ((a &&& b : Nat) : Int) :=
  (bits_nat .u64 64 (by decide) (fun n h1 h2 => by rw [IntKind.wrap_u64]; omega) a b ha hb).1
theorem andi64_nat (a b : Nat) (ha : a < 2 ^ 63) (hb : b < 2 ^ 63) : Go.bits .and .i64 (a : Int) (b : Int) = ((a &&& b : Nat) : Int) :=
  (bits_nat .i64 63 (by decide) (fun n h1 h2 => by rw [IntKind.wrap_i64]; omega) a b ha hb).1
theorem and64_of (a b : Int) (A B C : Nat) (ha : a = (A : Int)) (hb : b = (B : Int)) (hA : A < 2 ^ 64) (hB : B < 2 ^ 64) (hC : A &&& B = C) : Go.bits .and .u64 a b = (C : Int) := by
  rw [ha, hb, and64_nat A B hA hB, hC]
theorem andi64_of (a b : Int) (A B C : Nat) (ha : a = (A : Int)) (hb : b = (B : Int)) (hA : A < 2 ^ 63) (hB : B < 2 ^ 63) (hC : A &&& B = C) : Go.bits .and .i64 a b = (C : Int) := by
  rw [ha, hb, andi64_nat A B hA hB, hC]
set_option maxRecDepth 100000 in
set_option maxHeartbeats 16000000 in
theorem ones64_any (x : Nat) (w : World) (hx : x < 18446744073709551616) :
    Calls Try.prog 65 #[.int .u64 (x : Int)] w fun e w' => e = .returned (.int .i64 (onesL x : Int)) ∧ w' = w := by
  have e64 : (2 : Nat) ^ 64 = 18446744073709551616 := by decide
  obtain ⟨a1, a2, y, b1, b2, z, u, c, x1, x2, x3, f1, f2, f3, l1, f4, f5, f6, l2, f7, l3, f8, f9, l4, f10, l5, f11, l6, f12⟩ := swar x (by rw [e64]; exact hx)
  obtain ⟨o, ho⟩ : ∃ o, o = onesL x := ⟨_, rfl⟩
  rw [← ho] at f12 ⊢
  have M1 : Go.bits .and .u64 ((x : Int) / 2) 6148914691236517205 = (a1 : Int) := and64_of _ _ (x / 2) 6148914691236517205 _ (by omega) rfl (by rw [e64]; omega) (by decide) f1
  have M2 : Go.bits .and .u64 (x : Int) 6148914691236517205 = (a2 : Int) := and64_of _ _ x 6148914691236517205 _ (by omega) rfl (by rw [e64]; omega) (by decide) f2
  have M3 : IntKind.u64.wrap ((a1 : Int) + (a2 : Int)) = (y : Int) := by rw [IntKind.wrap_u64]; rw [e64] at l1; omega
  have M4 : Go.bits .and .u64 ((y : Int) / 4) 3689348814741910323 = (b1 : Int) := and64_of _ _ (y / 4) 3689348814741910323 _ (by omega) rfl (by rw [e64] at l1 ⊢; omega) (by decide) f4
  have M5 : Go.bits .and .u64 (y : Int) 3689348814741910323 = (b2 : Int) := and64_of _ _ y 3689348814741910323 _ (by omega) rfl l1 (by decide) f5
  have M6 : IntKind.u64.wrap ((b1 : Int) + (b2 : Int)) = (z : Int) := by rw [IntKind.wrap_u64]; rw [e64] at l2; omega
  have M7 : IntKind.u64.wrap ((z : Int) / 16 + (z : Int)) = (u : Int) := by rw [IntKind.wrap_u64]; rw [e64] at l3; omega
  have M8 : Go.bits .and .u64 (u : Int) 1085102592571150095 = (c : Int) := and64_of _ _ u 1085102592571150095 _ (by omega) rfl l3 (by decide) f8
  have M9 : IntKind.u64.wrap ((c : Int) + (c : Int) / 256) = (x1 : Int) := by rw [IntKind.wrap_u64]; rw [e64] at l4; omega
  have M10 : IntKind.u64.wrap ((x1 : Int) + (x1 : Int) / 65536) = (x2 : Int) := by rw [IntKind.wrap_u64]; rw [e64] at l5; omega
  have e63 : (2 : Nat) ^ 63 = 9223372036854775808 := by decide
  have M11 : IntKind.u64.wrap ((x2 : Int) + (x2 : Int) / 4294967296) = (x3 : Int) := by rw [IntKind.wrap_u64]; rw [e63] at l6; omega
  have M12 : Go.bits .and .i64 (x3 : Int) 127 = (o : Int) := andi64_of _ _ x3 127 _ rfl rfl l6 (by decide) f12
  have M13 : (x3 : Int) ≤ 9223372036854775807 := by rw [e63] at l6; omega
  have t1 : (0 : Int) ≤ (x : Int) := by omega
  have t2 : (x : Int) ≤ 18446744073709551615 := by omega
  clear f1 f2 f3 f4 f5 f6 f7 f8 f9 f10 f11 f12 l1 l2 l3 l4 l5 l6 e64 e63 ho hx
  go_enter Try.func65, Try.ntmps65
  go_wp2
  go_ret
  exact ⟨rfl, rfl⟩
theorem ones_any (x : Nat) (w : World) (hx : x < 18446744073709551616) :
    Calls Try.prog 56 #[.int .u64 (x : Int)] w fun e w' => e = .returned (.int .i64 (onesL x : Int)) ∧ w' = w := by
  go_enter Try.func56, Try.ntmps56
  go_wp2_with (go_at_call 65; refine (ones64_any x _ hx).mono ?_; rintro e w' ⟨rfl, rfl⟩)
  go_ret
  exact ⟨rfl, rfl⟩
set_option maxRecDepth 100000 in
set_option maxHeartbeats 16000000 in
theorem rones_any (x : Nat) (w : World) (hx : x < 9223372036854775808) :
    Calls Try.prog 40 #[.int .i64 (x : Int)] w fun e w' => e = .returned (.int .i64 (onesL x : Int)) ∧ w' = w := by
  have HX := Lib.hid hx
  have HO := Lib.hid (onesL_le 63 x (by omega))
  clear hx
  go_enter Try.func40, Try.ntmps40
  go_wp2
  go_loopw [0, 3] (fun nv ov wr => ∃ n o : Nat, nv = .int .i64 (n : Int) ∧ ov = .int .i64 (o : Int) ∧ (n : Int) ≤ 9223372036854775807 ∧ Hid (o + onesL n = onesL x) ∧ (o : Int) ≤ 63 ∧ wr = w) (fun nv _ _ => (intOf nv).toNat)
  case atStart => exact ⟨x, 0, rfl, rfl, by have := HX.out; omega, Lib.hid (by omega), by omega, rfl⟩
  case round =>
    obtain ⟨n, o, rfl, rfl, hn, HR, ho, rfl⟩ := hrel
    by_cases h0 : n = 0
    · subst h0
      have HE := Lib.hid (show onesL x = o by rw [← HR.out, onesL_zero]; rfl)
      go_wp2
      go_ret
      exact ⟨by rw [HE.out]; rfl, rfl⟩
    · have q1 : (0 : Int) < (n : Int) := by omega
      obtain ⟨r, hr⟩ : ∃ r, r = n % 2 := ⟨_, rfl⟩
      obtain ⟨h, hh⟩ : ∃ h, h = n / 2 := ⟨_, rfl⟩
      have e1 : (n : Int).tmod 2 = (r : Int) := by rw [Int.tmod_eq_emod_of_nonneg (by omega)]; omega
      have e1' : (n : Int) % 2 = (r : Int) := by omega
      have e2 : (n : Int).tdiv 2 = (h : Int) := by rw [Int.tdiv_eq_ediv_of_nonneg (by omega)]; omega
      have e2' : (n : Int) / 2 = (h : Int) := by omega
      have HR2 := Lib.hid (show (o + r) + onesL h = onesL x by rw [← HR.out, onesL_pos h0, hr, hh]; omega)
      have HL := Lib.hid (show o + r ≤ 63 by have := HR2.out; have := HO.out; omega)
      have HN := Lib.hid (show h < n by omega)
      clear h0 hr hh
      go_wp2
      go_roundw
      case rel => exact ⟨h, o + r, by first | rfl | (congr 1; omega), by go_num, by have := HN.out; omega, HR2, by have := HL.out; omega, by trivial⟩
      case measure => have := HN.out; simp [intOf] <;> omega

/-! ### made, read -/
theorem built_fr0 : Try.prog.built 82 [] = some (frC 0 (.slice none 0 0)).toArray := by kernel_rfl
theorem built_fr (n : Int) (v : Value) (hv : v.cells = #[v]) : Try.prog.built 82 [(0, .int .i64 n), (1, v)] = some #[.int .i64 n, v] := by
  have hplaces : ∃ places : Array (Nat × Nat), places = #[(0, 1), (1, 1)] ∧ Try.prog.built 82 [(0, .int .i64 n), (1, v)] = Instr.fill (places[·]?) (frC 0 (.slice none 0 0)).toArray [(0, .int .i64 n), (1, v)] := ⟨_, rfl, by kernel_rfl⟩
  obtain ⟨places, hp, e⟩ := hplaces
  rw [e]
  have hz : (frC 0 (.slice none 0 0)).length = 2 := rfl
  rw [fill_one _ 0 0 1 (.int .i64 n) [.int .i64 n] _ _ (by rw [hp]; rfl) rfl rfl (by simp [hz])]
  rw [fill_one _ 1 1 1 v [v] _ _ (by rw [hp]; rfl) hv rfl (by simp [splice, hz])]
  rfl
set_option maxRecDepth 100000 in
set_option maxHeartbeats 16000000 in
theorem fnew_any (w : World) : Calls Try.prog 33 #[] w fun e w' => ∃ g, e = .returned (.pointer (some ⟨g, 0, none⟩)) ∧ Own w w' [rowE g 82 (frC 0 (.slice none 0 0)), rowsE w.heap.size 27 (.slice none 0 0) []] := by
  have hS0 := (Own.start w).nilR w.heap.size 27
  go_enter Try.func33, Try.ntmps33
  go_wp2_with (first | (refine wp_built rfl 82 _ rfl _ rfl (frC 0 (.slice none 0 0)).toArray built_fr0 ?_) | (refine wp_box (o := ⟨some 2, _, _, _, _, _⟩) rfl 82 (.tmp 1) rfl (frC 0 (.slice none 0 0)) rfl ?_))
  intro w1 hr hg hz
  clear hz
  have hS1 := hS0.new hr hg
  clear hr hg hS0
  go_wp2
  go_ret
  exact ⟨_, rfl, hS1⟩
set_option maxRecDepth 100000 in
set_option maxHeartbeats 16000000 in
theorem fsize_any (g n : Nat) (v : Value) (w : World) (hr : Row w g 82 (frC n v)) :
    Calls Try.prog 35 #[.pointer (some ⟨g, 0, none⟩)] w fun e w' => e = .returned (.int .i64 (n : Int)) ∧ w' = w := by
  have c0 := hr.cell 0
  simp only [frC, List.getElem?_cons_zero] at c0
  clear hr
  go_enter Try.func35, Try.ntmps35
  go_wp2
  go_ret
  exact ⟨rfl, rfl⟩
theorem fsize_nil (w : World) : Calls Try.prog 35 #[.pointer none] w fun e w' => e = .returned (.int .i64 0) ∧ w' = w := by
  go_enter Try.func35, Try.ntmps35
  go_wp2
  go_ret
  exact ⟨rfl, rfl⟩
set_option maxRecDepth 100000 in
set_option maxHeartbeats 16000000 in
theorem ftops_any (g n c : Nat) (A : Option Addr) (T : Way) (w : World) (hr : Row w g 82 (frC n (.slice A T.length c))) (hT : Rows32 w A c T) (hl : T.length ≤ 4398046511104) :
    Calls Try.prog 36 #[.pointer (some ⟨g, 0, none⟩)] w fun e w' => ∃ v, e = .returned v ∧ OwnsR w' w.heap.size 27 v T ∧ w.grownBy w' none := by
  have hSB : Own w (w.alloc (.cells #[] 27)) [rowsE w.heap.size 27 (.slice (some ⟨w.heap.size, 0, none⟩) 0 0) []] :=
    (Own.start w).newE (World.grownBy_alloc _ _ none) (rowsE_good _ _ _ _) ⟨L32.nil, rfl, .inr ⟨w.heap.size, 0, #[], rfl, Nat.le_refl _, Row.new w 27 [], Nat.le_refl _, by simp [maxLen], rfl, rfl⟩⟩ (fun k hk => by cases hk; exact Nat.le_refl _)
  obtain ⟨m, hm⟩ : ∃ m, m = T.length := ⟨_, rfl⟩
  rw [← hm] at hr
  have HM := Lib.hid hm
  have HT := Lib.hid hT
  have HL := Lib.hid hl
  clear hm hT hl
  have c1 := (hr.alloc (.cells #[] 27)).cell 1
  simp only [frC, List.getElem?_cons_succ, List.getElem?_cons_zero] at c1
  clear hr
  go_enter Try.func36, Try.ntmps36
  go_wp2_with (first | (refine wp_cell rfl 31 (.tmp 8) rfl Try.underlying31 rfl ⟨g, 1, none⟩ rfl _ c1 ?_) | (refine wp_appR rfl (.tmp 5) (.tmp 9) 31 rfl 27 Try.underlying31 info_rd [] T rfl (hSB.rows 0 rfl) A m c T rfl HT.out.all ((HT.out.keep hSB.grown).src) HM.out.symm rfl (by have := HL.out; simp; omega) hSB.size ?_))
  intro v' w8 ho hg hv
  have hS9 := hSB.appendR 0 rfl ho hg (by first | exact hv | simpa using hv)
  clear hSB ho hg hv
  go_wp2
  go_ret
  exact ⟨_, rfl, hS9.rows 0 rfl, hS9.grown⟩
theorem ftops_nil (w : World) : Calls Try.prog 36 #[.pointer none] w fun e w' => e = .returned (.slice none 0 0) ∧ w' = w := by
  go_enter Try.func36, Try.ntmps36
  go_wp2
  go_ret
  exact ⟨rfl, rfl⟩
set_option maxRecDepth 100000 in
set_option maxHeartbeats 16000000 in
theorem froot_none (p : Value) (g n c : Nat) (A : Option Addr) (w : World) (hp : p = .pointer none ∨ (p = .pointer (some ⟨g, 0, none⟩) ∧ Row w g 82 (frC n (.slice A 0 c)))) :
    Calls Try.prog 37 #[p] w fun e w' => e = .returned (.agg (c8 (foldR [])).toArray) ∧ w.grownBy w' none := by
  have hd := fun W => dsum_any 0 none [] W (Bytes.nil _ _) (by simp) (by omega) (by simp)
  obtain ⟨D, hD⟩ : ∃ D, D = sha [] := ⟨_, rfl⟩
  rw [← hD] at hd
  have hl := sha_length []
  rw [← hD] at hl
  have HFIT := Lib.hid (show 0 + (c8 D).length ≤ zd.length by rw [c8_length, hl]; decide)
  have HEQ := Lib.hid (show (c8 D).length = zd.length by rw [c8_length, hl]; decide)
  have HI := Lib.hid (info_dg D hl)
  have HRES := Lib.hid (show D = foldR [] from hD)
  clear hD hl
  rcases hp with rfl | ⟨rfl, hr⟩
  · skip
    go_enter Try.func37, Try.ntmps37
    go_wp2_with (refine wp_alloc (o := ⟨some 2, _, _, _, _, _⟩) rfl 27 rfl _ alloc_d ?_)
    intro w1 hr hg hz
    clear hz
    have hS1 := (Own.start w).new hr hg
    clear hr hg
    go_wp2_with fail
    refine (hd _).mono ?_
    rintro e w2 ⟨rfl, hg⟩
    have hS2 := hS1.call hg
    clear hg hS1
    go_wp2_with (refine wp_storeAgg rfl 27 (.tmp 2) (.tmp 15) rfl w.heap.size 0 27 zd (c8 (D)) rfl rfl (hS2.row 0 rfl) (by simpa using HI.out) HFIT.out (one8 _) ?_)
    intro wz hdr hgz _
    rw [splice_all HEQ.out] at hdr
    have hSz := hS2.setRow 0 rfl hdr hgz
    clear hdr hgz hS2
    go_wp2
    refine bodyPost_ret (v := .agg (c8 (D)).toArray) (results_cell_row rfl _ _ w.heap.size _ _ _ _ rfl (hSz.row 0 rfl) Try.underlying27 rfl (by simpa using HI.out)) rfl ⟨(by rw [HRES.out]), hSz.grown⟩
  · skip
    go_enter Try.func37, Try.ntmps37
    go_wp2_with (refine wp_alloc (o := ⟨some 2, _, _, _, _, _⟩) rfl 27 rfl _ alloc_d ?_)
    intro w1 hr hg hz
    clear hz
    have hS1 := (Own.start w).new hr hg
    clear hr hg
    have c1 := (hr.grown hS1.grown (by simp)).cell 1
    simp only [frC, List.getElem?_cons_succ, List.getElem?_cons_zero] at c1
    clear hr
    go_wp2_with (refine wp_cell rfl 31 (.tmp 10) rfl Try.underlying31 rfl ⟨g, 1, none⟩ rfl _ c1 ?_)
    refine (hd _).mono ?_
    rintro e w2 ⟨rfl, hg⟩
    have hS2 := hS1.call hg
    clear hg hS1
    go_wp2_with (refine wp_storeAgg rfl 27 (.tmp 2) (.tmp 15) rfl w.heap.size 0 27 zd (c8 (D)) rfl rfl (hS2.row 0 rfl) (by simpa using HI.out) HFIT.out (one8 _) ?_)
    intro wz hdr hgz _
    rw [splice_all HEQ.out] at hdr
    have hSz := hS2.setRow 0 rfl hdr hgz
    clear hdr hgz hS2
    go_wp2
    refine bodyPost_ret (v := .agg (c8 (D)).toArray) (results_cell_row rfl _ _ w.heap.size _ _ _ _ rfl (hSz.row 0 rfl) Try.underlying27 rfl (by simpa using HI.out)) rfl ⟨(by rw [HRES.out]), hSz.grown⟩
theorem foldR_drop (T : Way) (i : Nat) (h : i + 1 < T.length) : foldR (T.drop i) = nodeL (T.getD i []) (foldR (T.drop (i + 1))) := by
  have e : T.drop i = T[i] :: T.drop (i + 1) := List.drop_eq_getElem_cons (by omega)
  have e2 : T.drop (i + 1) = T[i + 1] :: T.drop (i + 2) := List.drop_eq_getElem_cons (by omega)
  rw [e, e2]
  show nodeL _ _ = _
  congr 1
  have : i < T.length := by omega
  simp [this]
theorem foldR_last (T : Way) (h : 0 < T.length) : foldR (T.drop (T.length - 1)) = T.getD (T.length - 1) [] := by
  have e : T.drop (T.length - 1) = T[T.length - 1] :: T.drop (T.length - 1 + 1) := List.drop_eq_getElem_cons (by omega)
  rw [e, List.drop_of_length_le (by omega : T.length ≤ T.length - 1 + 1)]
  show T[T.length - 1] = _
  have : T.length - 1 < T.length := by omega
  simp [this]
set_option maxRecDepth 100000 in
set_option maxHeartbeats 16000000 in
theorem froot_some (g n c : Nat) (A : Option Addr) (T : Way) (w : World) (hr : Row w g 82 (frC n (.slice A T.length c))) (hT : Rows32 w A c T) (h0 : 0 < T.length) (hl : T.length ≤ 4398046511104) :
    Calls Try.prog 37 #[.pointer (some ⟨g, 0, none⟩)] w fun e w' => e = .returned (.agg (c8 (foldR T)).toArray) ∧ w.grownBy w' none := by
  obtain ⟨m, hm⟩ : ∃ m, m = T.length := ⟨_, rfl⟩
  obtain ⟨m1, hm1⟩ : ∃ m1, m = m1 + 1 := ⟨m - 1, by omega⟩
  have HM := Lib.hid hm
  have HT := Lib.hid hT
  have HZ := Lib.hid (foldR_32 T hT.all)
  obtain ⟨b, off, hA, hat⟩ := hT.at_ m1 (by omega)
  subst hA
  have hXl := hT.all.at_ m1 (by omega)
  have hXf := foldR_last T h0
  rw [show T.length - 1 = m1 by omega] at hXf
  obtain ⟨X, hX⟩ : ∃ X, X = T.getD m1 [] := ⟨_, rfl⟩
  rw [← hX] at hat hXl hXf
  have HX := Lib.hid hXl
  have HXF := Lib.hid hXf
  have HAT := Lib.hid hat
  have IX := Lib.hid (info_dg X hXl)
  have FX := Lib.hid (show 0 + (c8 X).length ≤ zd.length by rw [c8_length, hXl]; decide)
  have EX := Lib.hid (show (c8 X).length = zd.length by rw [c8_length, hXl]; decide)
  rw [← hm] at hr h0 hl
  have q0 : (0 : Int) < (m : Int) := by omega
  have q1 : (m : Int) ≤ 4398046511104 := by omega
  have q2 : (m : Int) - 1 = (m1 : Int) := by omega
  have q3 : (m : Int) - 2 = (m1 : Int) - 1 := by omega
  have q4 : decide ((m : Int) = 0) = false := by simp; omega
  have q5 : ((m : Int) == 0) = false := by simp; omega
  have q6 : (m1 : Int) < (m : Int) := by omega
  have q7 : ¬ m = 0 := by omega
  have HM1 := Lib.hid hm1
  clear hm hm1 hX hXl hXf hat h0 hl hT
  have hS0 := Own.start w
  have HC := Lib.hid (show ∀ W, w.grownBy W none → W.cell? ⟨g, 1, none⟩ = some (.slice (some ⟨b, off, none⟩) m c) from fun W hg => by
    have c1 := (hr.grown hg (by simp)).cell 1
    simp only [frC, List.getElem?_cons_succ, List.getElem?_cons_zero] at c1
    exact c1)
  clear hr
  go_enter Try.func37, Try.ntmps37
  go_wp2_with (refine wp_alloc (o := ⟨some 2, _, _, _, _, _⟩) rfl 27 rfl _ alloc_d ?_)
  intro w1 hr hg hz
  clear hz
  have hS1 := hS0.new hr hg
  clear hr hg
  clear hS0
  have cA := HC.out _ hS1.grown
  go_wp2
  clear cA
  have hS2 := hS1.drew
  clear hS1
  refine wp_region_mixC (fun W => Own w W ([rowE w.heap.size 27 zd])) (fun i => i != 13) [(0, true), (1, true), (2, true), (3, true), (4, true), (5, true), (6, true), (7, true), (8, true), (9, true), (10, true), (11, true), (12, false), (13, false)] (by kernel_rfl) (by kernel_rfl) (hS2) ?_
  iterate 3 (refine wpMix_step rfl (fun K hK => ?_); go_simp; (try go_bits); with_reducible refine hK _ ?_; clear hK K)
  refine wpMix_pureW _ rfl rfl (fun W hW => run_load_cell 31 (.tmp 18) rfl Try.underlying31 rfl ⟨g, 1, none⟩ rfl _ (HC.out W hW.grown)) ?_
  iterate 3 (refine wpMix_step rfl (fun K hK => ?_); go_simp; (try go_bits); with_reducible refine hK _ ?_; clear hK K)
  refine wpMix_pureW _ rfl rfl (fun W hW => run_load_cell 31 (.tmp 22) rfl Try.underlying31 rfl ⟨g, 1, none⟩ rfl _ (HC.out W hW.grown)) ?_
  iterate 3 (refine wpMix_step rfl (fun K hK => ?_); go_simp; (try go_bits); with_reducible refine hK _ ?_; clear hK K)
  refine wpMix_pureW (.agg (c8 X).toArray) rfl rfl (fun W hW => run_load_op 27 (.tmp 26) rfl Try.underlying27 rfl ⟨b, off + m1 * 32, none⟩ rfl _ IX.out (fun j u hj => hW.cell (HAT.out j u hj))) ?_
  refine wpMix_loudW _ rfl rfl ?_
  go_wp2_with (refine wp_alloc (o := ⟨some 3, _, _, _, _, _⟩) rfl 27 rfl _ alloc_d ?_)
  intro w3 hr hg hz
  clear hz
  have hS3 := hS2.new hr hg
  obtain ⟨g3, hg3⟩ : ∃ g3, g3 = w1.drew.heap.size := ⟨_, rfl⟩
  clear hr hg hS2
  go_wp2_with fail
  refine wpMix_next' (fun _ => hS3.tail) ?_
  refine wpMix_loudW _ rfl rfl ?_
  go_wp2_with (refine wp_storeAgg rfl 27 (.tmp 3) (.tmp 27) rfl w1.heap.size 0 27 zd (c8 X) rfl rfl (hS3.row 0 rfl) IX.out FX.out (one8 _) ?_)
  intro w4 hr hg hz
  clear hz
  rw [splice_all EX.out] at hr
  have hS4 := hS3.setRow 0 rfl hr hg
  clear hr hg hS3
  go_wp2_with fail
  refine wpMix_next' (fun h => absurd h (by decide)) ?_
  unfold wpMix
  have cA := HC.out _ hS4.grown
  go_wp2
  clear cA
  go_loopw [4] (fun iv wr => ∃ (j : Nat) (d : List UInt8), j ≤ m1 ∧ iv = .int .i64 ((j : Int) - 1) ∧ Hid (d.length = 32) ∧ Hid (d = foldR (T.drop j)) ∧ Own w wr [rowE w1.heap.size 27 (c8 d), rowE w.heap.size 27 zd]) (fun iv _ => (intOf iv + 1).toNat)
  case atStart => exact ⟨m1, X, Nat.le_refl _, rfl, HX, Lib.hid (HXF.out.symm), hS4⟩
  case round =>
    clear hS4
    obtain ⟨j, d, hj, rfl, HD, HF, hS⟩ := hrel
    have ID := Lib.hid (info_dg d HD.out)
    have FD := Lib.hid (show 0 + (c8 d).length ≤ zd.length by rw [c8_length, HD.out]; decide)
    have ED := Lib.hid (show (c8 d).length = zd.length by rw [c8_length, HD.out]; decide)
    cases j with
    | zero =>
      have t1 : ¬ (0 : Int) ≤ -1 := by omega
      have HRES := Lib.hid (show d = foldR T by rw [HF.out, List.drop_zero])
      clear hj
      go_wp2_with (first | (refine wp_load rfl 27 (.tmp 3) rfl Try.underlying27 rfl ⟨w1.heap.size, 0, none⟩ rfl (c8 d) ID.out (row_all (hS.row 0 rfl)) ?_) | (refine wp_storeAgg rfl 27 (.tmp 2) (.tmp 47) rfl w.heap.size 0 27 zd (c8 d) rfl rfl (hS.row 1 rfl) ID.out FD.out (one8 _) ?_))
      intro wz hdr hgz _
      rw [splice_all ED.out] at hdr
      have hSz := hS.setRow 1 rfl hdr hgz
      clear hdr hgz hS
      go_wp2
      refine bodyPost_ret (v := .agg (c8 d).toArray) (results_cell_row rfl _ _ w.heap.size _ _ _ _ rfl (hSz.row 1 rfl) Try.underlying27 rfl ID.out) rfl ⟨by rw [HRES.out], hSz.grown⟩
    | succ j =>
      have e1 : ((j + 1 : Nat) : Int) - 1 = (j : Int) := by omega
      rw [e1]
      have p0 : (0 : Int) ≤ (j : Int) := by omega
      have p1 : (j : Int) < (m : Int) := by have := HM1.out; omega
      have hjT : j + 1 < T.length := by have := HM.out; have := HM1.out; omega
      obtain ⟨b2, off2, hA2, hat2⟩ := (HT.out.keep hS.grown).at_ j (by omega)
      injection hA2 with hA2
      injection hA2 with hb2 ho2 _
      subst hb2; subst ho2
      have hyl := HT.out.all.at_ j (by omega)
      have hfold := foldR_drop T j hjT
      obtain ⟨y, hy⟩ : ∃ y, y = T.getD j [] := ⟨_, rfl⟩
      rw [← hy] at hat2 hyl hfold
      have IY := Lib.hid (info_dg y hyl)
      have HAY := Lib.hid hat2
      have cn := fun W => node_any y d W hyl HD.out
      obtain ⟨N, hN⟩ : ∃ N, N = nodeL y d := ⟨_, rfl⟩
      rw [← hN] at cn
      have hNl : N.length = 32 := by rw [hN]; exact nodeL_length _ _
      have HN := Lib.hid (show N = foldR (T.drop j) by rw [hN, hfold, ← HF.out])
      have INN := Lib.hid (info_dg N hNl)
      have FN := Lib.hid (show 0 + (c8 N).length ≤ (c8 d).length by rw [c8_length, c8_length, hNl, HD.out]; decide)
      have EN := Lib.hid (show (c8 N).length = (c8 d).length by rw [c8_length, c8_length, hNl, HD.out])
      have HNL := Lib.hid hNl
      have HJ := Lib.hid hj
      have hR := Own.start wr
      have HGW := Lib.hid hS.grown
      have HDD := Lib.hid (row_all (hS.row 0 rfl))
      clear hy hyl hat2 hN hNl hj hjT hfold
      go_wp2
      have hR1 := hR.drew
      clear hR
      refine wp_region_mixC (fun W => Own wr W ([])) (fun i => i != 9) [(0, true), (1, true), (2, true), (3, true), (4, true), (5, true), (6, true), (7, true), (8, false), (9, false)] (by kernel_rfl) (by kernel_rfl) (hR1) ?_
      iterate 3 (refine wpMix_step rfl (fun K hK => ?_); go_simp; (try go_bits); with_reducible refine hK _ ?_; clear hK K)
      refine wpMix_pureW _ rfl rfl (fun W hW => run_load_cell 31 (.tmp 40) rfl Try.underlying31 rfl ⟨g, 1, none⟩ rfl _ (HC.out W (grownBy_trans HGW.out hW.grown))) ?_
      iterate 2 (refine wpMix_step rfl (fun K hK => ?_); go_simp; (try go_bits); with_reducible refine hK _ ?_; clear hK K)
      refine wpMix_pureW (.agg (c8 y).toArray) rfl rfl (fun W hW => run_load_op 27 (.tmp 43) rfl Try.underlying27 rfl ⟨b, off + j * 32, none⟩ rfl _ IY.out (fun i u hi => hW.cell (HAY.out i u hi))) ?_
      refine wpMix_pureW (.agg (c8 d).toArray) rfl rfl (fun W hW => run_load_op 27 (.tmp 3) rfl Try.underlying27 rfl ⟨w1.heap.size, 0, none⟩ rfl _ ID.out (fun i u hi => hW.cell (HDD.out i u hi))) ?_
      refine wpMix_loudW _ rfl rfl ?_
      go_wp2_with fail
      refine (cn _).mono ?_
      rintro e w5 ⟨rfl, hg⟩
      have hR2 := hR1.call hg
      clear hg hR1
      go_wp2_with fail
      refine wpMix_next' (fun _ => hR2) ?_
      have hS5 := hS.call hR2.grown
      refine wpMix_loudW _ rfl rfl ?_
      go_wp2_with (refine wp_storeAgg rfl 27 (.tmp 3) (.tmp 46) rfl w1.heap.size 0 27 (c8 d) (c8 N) rfl rfl (hS5.row 0 rfl) INN.out FN.out (one8 _) ?_)
      intro w6 hr hg hz
      clear hz
      rw [splice_all EN.out] at hr
      have hS6 := hS5.setRow 0 rfl hr hg
      clear hr hg hS5 hS hR2
      go_wp2_with fail
      refine wpMix_next' (fun h => absurd h (by decide)) ?_
      unfold wpMix
      go_wp2
      go_roundw
      case rel => exact ⟨j, N, by have := HJ.out; omega, by go_num, HNL, HN, hS6⟩
      case measure => simp [intOf] <;> omega
theorem froot_any (g n c : Nat) (A : Option Addr) (T : Way) (w : World) (hr : Row w g 82 (frC n (.slice A T.length c))) (hT : Rows32 w A c T) (hl : T.length ≤ 4398046511104) :
    Calls Try.prog 37 #[.pointer (some ⟨g, 0, none⟩)] w fun e w' => e = .returned (.agg (c8 (foldR T)).toArray) ∧ w.grownBy w' none := by
  rcases Nat.eq_zero_or_pos T.length with h0 | h0
  · have hn : T = [] := List.eq_nil_of_length_eq_zero h0
    subst hn
    exact froot_none _ g n c A w (.inr ⟨rfl, hr⟩)
  · exact froot_some g n c A T w hr hT h0 hl
set_option maxRecDepth 100000 in
set_option maxHeartbeats 16000000 in
theorem fload_ok (n : Nat) (A : Option Addr) (c : Nat) (T : Way) (w : World) (hn : n < 9223372036854775808) (hT : Rows32 w A c T) (hl : T.length = onesL n) :
    Calls Try.prog 39 #[.int .i64 (n : Int), .slice A T.length c] w fun e w' => ∃ g v, e = .returned (.tuple #[.pointer (some ⟨g, 0, none⟩), .int .i64 0]) ∧ Own w w' [rowE g 82 (frC n v), rowsE w.heap.size 27 v T] := by
  have hSB : Own w (w.alloc (.cells #[] 27)) [rowsE w.heap.size 27 (.slice (some ⟨w.heap.size, 0, none⟩) 0 0) []] :=
    (Own.start w).newE (World.grownBy_alloc _ _ none) (rowsE_good _ _ _ _) ⟨L32.nil, rfl, .inr ⟨w.heap.size, 0, #[], rfl, Nat.le_refl _, Row.new w 27 [], Nat.le_refl _, by simp [maxLen], rfl, rfl⟩⟩ (fun k hk => by cases hk; exact Nat.le_refl _)
  have h63 := onesL_le 63 n hn
  have hc := fun W => ones_any n W (by omega)
  rw [← hl] at hc
  obtain ⟨m, hm⟩ : ∃ m, m = T.length := ⟨_, rfl⟩
  rw [← hm] at hc ⊢
  have HM := Lib.hid hm
  have HT := Lib.hid hT
  have HL := Lib.hid (show m ≤ 63 by omega)
  have t1 : (0 : Int) ≤ (n : Int) := by omega
  have t2 : decide ((n : Int) < 0) = false := by simp <;> omega
  have t3 : (n : Int) % 18446744073709551616 = (n : Int) := by omega
  have t4 : (n : Int) < 9223372036854775808 := by omega
  clear hm hT h63 hl hn
  go_enter Try.func39, Try.ntmps39
  go_wp2_with fail
  refine (hc _).mono ?_
  rintro e w' ⟨rfl, rfl⟩
  go_wp2_with (refine wp_appR rfl (.tmp 17) (.tmp 18) 31 rfl 27 Try.underlying31 info_rd [] T rfl (hSB.rows 0 rfl) A m c T rfl HT.out.all ((HT.out.keep hSB.grown).src) HM.out.symm rfl (by have := HL.out; have := HM.out; simp; omega) hSB.size ?_)
  intro v' w8 ho hg hv
  have hS9 := hSB.appendR 0 rfl ho hg (by first | exact hv | simpa using hv)
  clear hSB ho hg hv
  obtain ⟨A', c', hv', _, _⟩ := ownsR_open (hS9.rows 0 rfl)
  subst hv'
  go_wp2_with (first | (refine wp_built rfl 82 _ rfl _ rfl (frC n (.slice A' T.length c')).toArray (built_fr n _ rfl) ?_) | (refine wp_box (o := ⟨some 21, _, _, _, _, _⟩) rfl 82 (.tmp 20) rfl (frC n (.slice A' T.length c')) rfl ?_))
  intro w10 hr hg hz
  clear hz
  have hSA := hS9.new hr hg
  clear hr hg hS9
  go_wp2
  go_ret2
  exact ⟨_, _, rfl, hSA⟩
set_option maxRecDepth 100000 in
set_option maxHeartbeats 16000000 in
theorem fload_bad (n : Int) (A : Option Addr) (c l : Nat) (w : World) (hn : n < 0) :
    Calls Try.prog 39 #[.int .i64 n, .slice A l c] w fun e w' => e = .returned (.tuple #[.pointer none, .int .i64 1]) ∧ w' = w := by
  have t1 : decide (n < 0) = true := by simp; omega
  go_enter Try.func39, Try.ntmps39
  go_wp2
  go_ret2
  exact ⟨rfl, rfl⟩
set_option maxRecDepth 100000 in
set_option maxHeartbeats 16000000 in
theorem fload_form (n : Nat) (A : Option Addr) (c m : Nat) (w : World) (hn : n < 9223372036854775808) (hl : m ≠ onesL n) (hm : m ≤ 9223372036854775807) :
    Calls Try.prog 39 #[.int .i64 (n : Int), .slice A m c] w fun e w' => e = .returned (.tuple #[.pointer none, .int .i64 10]) ∧ w' = w := by
  have hc := fun W => ones_any n W (by omega)
  obtain ⟨o, ho⟩ : ∃ o, o = onesL n := ⟨_, rfl⟩
  rw [← ho] at hc hl
  have t1 : (0 : Int) ≤ (n : Int) := by omega
  have t2 : decide ((n : Int) < 0) = false := by simp <;> omega
  have t3 : (n : Int) % 18446744073709551616 = (n : Int) := by omega
  have t4 : decide ((m : Int) = (o : Int)) = false := by simp; omega
  have t5 : ((m : Int) == (o : Int)) = false := by simp; omega
  have t6 : ((m : Int) != (o : Int)) = true := by simp; omega
  have t7 : ¬ m = o := hl
  have t8 : (n : Int) < 9223372036854775808 := by omega
  clear ho hn
  go_enter Try.func39, Try.ntmps39
  go_wp2_with fail
  refine (hc _).mono ?_
  rintro e w' ⟨rfl, rfl⟩
  go_wp2
  go_ret2
  exact ⟨rfl, rfl⟩
set_option maxRecDepth 100000 in
set_option maxHeartbeats 16000000 in
theorem fadd_nil (leaf : List UInt8) (w : World) : Calls Try.prog 34 #[.pointer none, .agg (c8 leaf).toArray] w fun e w' => e = .returned (.int .i64 2) ∧ w.grownBy w' none := by
  go_enter Try.func34, Try.ntmps34
  go_wp2_with (refine wp_box (o := ⟨some 3, _, _, _, _, _⟩) rfl 27 (.tmp 1) rfl (c8 leaf) rfl ?_)
  intro w1 hr hg hz
  clear hz
  have hS1 := ((Own.start w)).new hr hg
  clear hr hg
  go_wp2
  go_ret
  exact ⟨rfl, hS1.grown⟩
set_option maxRecDepth 100000 in
set_option maxHeartbeats 16000000 in
theorem fadd_limit (g : Nat) (v : Value) (leaf : List UInt8) (w : World) (hr : Row w g 82 (frC 9223372036854775807 v)) :
    Calls Try.prog 34 #[.pointer (some ⟨g, 0, none⟩), .agg (c8 leaf).toArray] w fun e w' => e = .returned (.int .i64 8) ∧ w.grownBy w' none := by
  go_enter Try.func34, Try.ntmps34
  go_wp2_with (refine wp_box (o := ⟨some 3, _, _, _, _, _⟩) rfl 27 (.tmp 1) rfl (c8 leaf) rfl ?_)
  intro w1 hr hg hz
  clear hz
  have hS1 := ((Own.start w)).new hr hg
  clear hr hg
  have c0 := (hr.grown hS1.grown (by simp)).cell 0
  simp only [frC, List.getElem?_cons_zero] at c0
  clear hr
  go_wp2_with (refine wp_cell rfl 3 (.tmp 12) rfl Try.underlying3 rfl ⟨g, 0, none⟩ rfl _ c0 ?_)
  go_ret
  exact ⟨rfl, hS1.grown⟩
set_option maxRecDepth 100000 in
set_option maxHeartbeats 16000000 in
theorem fadd_any (g n base : Nat) (v : Value) (T : Way) (leaf : List UInt8) (w0 w : World) (L : List Ent) (hw : Own w0 w (rowE g 82 (frC n v) :: rowsE base 27 v T :: L)) (hb : base ≤ w0.heap.size) (hn : n < 9223372036854775807) (hl : T.length = onesL n) (hx : leaf.length = 32) :
    Calls Try.prog 34 #[.pointer (some ⟨g, 0, none⟩), .agg (c8 leaf).toArray] w fun e w' => ∃ v', e = .returned (.int .i64 0) ∧ Own w0 w' (rowE g 82 (frC (n + 1) v') :: rowsE base 27 v' (carryL T n leaf) :: L) := by
  have HB := Lib.hid hb
  have t1 : (0 : Int) ≤ (n : Int) := by omega
  have t2 : (n : Int) ≤ 9223372036854775806 := by omega
  have t3 : decide ((n : Int) = 9223372036854775807) = false := by simp; omega
  have t4 : ((n : Int) == 9223372036854775807) = false := by simp; omega
  have t5 : ¬ (n : Int) = 9223372036854775807 := by omega
  have HT63 := Lib.hid (onesL_le 63 n (by omega))
  have HX := Lib.hid hx
  have HL := Lib.hid hl
  clear hb hl hx hn
  go_enter Try.func34, Try.ntmps34
  go_wp2_with (refine wp_box (o := ⟨some 3, _, _, _, _, _⟩) rfl 27 (.tmp 1) rfl (c8 leaf) rfl ?_)
  intro w1 hr hg hz
  clear hz
  have hS1 := hw.new hr hg
  clear hr hg hw
  have c0 := (hS1.row 1 rfl).cell 0
  simp only [frC, List.getElem?_cons_zero] at c0
  go_wp2
  clear c0
  go_loopw [5] (fun kv wr => ∃ (k : Nat) (d : List UInt8) (v' : Value) (T' : Way), kv = .int .i64 (k : Int) ∧ (k : Int) ≤ (n : Int) ∧ Hid (d.length = 32) ∧ Hid (T'.length = onesL k) ∧ Hid (T'.length ≤ 63) ∧ Hid (carryL T' k d = carryL T n leaf) ∧ Own w0 wr (rowE w.heap.size 27 (c8 d) :: rowE g 82 (frC n v') :: rowsE base 27 v' T' :: L)) (fun kv _ => (intOf kv).toNat)
  case atStart => exact ⟨n, leaf, v, T, rfl, by omega, HX, HL, Lib.hid (by rw [HL.out]; exact HT63.out), Lib.hid rfl, hS1⟩
  case round =>
    clear hS1
    obtain ⟨k, d, v', T', rfl, hk, HD, HO, HL63, HR, hS⟩ := hrel
    have ID := Lib.hid (info_dg d HD.out)
    have k0 : (0 : Int) ≤ (k : Int) := by omega
    obtain ⟨h, hh⟩ : ∃ h, h = k / 2 := ⟨_, rfl⟩
    have e2 : (k : Int).tdiv 2 = (h : Int) := by rw [Int.tdiv_eq_ediv_of_nonneg (by omega)]; omega
    have e2' : (k : Int) / 2 = (h : Int) := by omega
    obtain ⟨A', c', hv', hR', hc'⟩ := ownsR_open (hS.rows 2 rfl)
    subst hv'
    by_cases hodd : k % 2 = 1
    · have HK := Lib.hid (show h < k by omega)
      have HK2 := Lib.hid (show (h : Int) ≤ (n : Int) by omega)
      have hpos : 0 < T'.length := by rw [HO.out, onesL_two]; omega
      have e1 : (k : Int).tmod 2 = 1 := by rw [Int.tmod_eq_emod_of_nonneg (by omega)]; omega
      have e1' : (k : Int) % 2 = 1 := by omega
      obtain ⟨m1, hm1⟩ : ∃ m1, T'.length = m1 + 1 := ⟨T'.length - 1, by omega⟩
      obtain ⟨b, off, hA, hat⟩ := hR'.at_ m1 (by omega)
      subst hA
      have hyl := hR'.all.at_ m1 (by omega)
      have HC1 := Lib.hid (show carryL (T'.take m1) h (nodeL (T'.getD m1 []) d) = carryL T n leaf by
        rw [hh, ← HR.out, carryL_odd T' k d hodd, List.dropLast_eq_take, show T'.length - 1 = m1 by omega])
      have HO1 := Lib.hid (show (T'.take m1).length = onesL h by have := HO.out; rw [onesL_two, ← hh] at this; simp; omega)
      have HT1 := Lib.hid (show (T'.take m1).length = m1 by simp; omega)
      have HLE := Lib.hid (show m1 ≤ T'.length by omega)
      have hcap := hR'.le
      have hslc := fun W => run_to32 Try.underlying31 size_d (some ⟨b, off, none⟩) T'.length c' m1 (by omega) W
      have HL62 := Lib.hid (show (T'.take m1).length ≤ 63 by have := HL63.out; simp; omega)
      obtain ⟨y, hy⟩ : ∃ y, y = T'.getD m1 [] := ⟨_, rfl⟩
      rw [← hy] at hat hyl HC1
      have IY := Lib.hid (info_dg y hyl)
      have HAY := Lib.hid hat
      have cn := fun W => node_any y d W hyl HD.out
      obtain ⟨N, hN⟩ : ∃ N, N = nodeL y d := ⟨_, rfl⟩
      rw [← hN] at cn HC1
      have hNl : N.length = 32 := by rw [hN]; exact nodeL_length _ _
      have INN := Lib.hid (info_dg N hNl)
      have FN := Lib.hid (show 0 + (c8 N).length ≤ (c8 d).length by rw [c8_length, c8_length, hNl, HD.out]; decide)
      have EN := Lib.hid (show (c8 N).length = (c8 d).length by rw [c8_length, c8_length, hNl, HD.out])
      have HNL := Lib.hid hNl
      have p2 : (T'.length : Int) - 1 = (m1 : Int) := by omega
      have p3 : (m1 : Int) < (T'.length : Int) := by omega
      have p4 : (0 : Int) ≤ (m1 : Int) := by omega
      have p5 : (T'.length : Int) ≤ 63 := by have := HL63.out; omega
      obtain ⟨m, hm⟩ : ∃ m, m = T'.length := ⟨_, rfl⟩
      rw [← hm] at p2 p3 p5 hslc hS
      clear hat hy hyl hN hNl hpos hR' hc' hcap hm hodd hm1 hh
      have HDD := Lib.hid (row_all (hS.row 0 rfl))
      have HFC := Lib.hid (show wr.cell? ⟨g, 1, none⟩ = some (.slice (some ⟨b, off, none⟩) m c') from (hS.row 1 rfl).cell 1)
      have hR := Own.start wr
      go_wp2
      have hR1 := hR.drew
      clear hR
      refine wp_region_mixC (fun W => Own wr W ([])) (fun i => i != 14) [(0, true), (1, true), (2, true), (3, true), (4, true), (5, true), (6, true), (7, true), (8, true), (9, true), (10, true), (11, true), (12, true), (13, false), (14, false)] (by kernel_rfl) (by kernel_rfl) (hR1) ?_
      iterate 3 (refine wpMix_step rfl (fun K hK => ?_); go_simp; (try go_bits); with_reducible refine hK _ ?_; clear hK K)
      refine wpMix_pureW _ rfl rfl (fun W hW => run_load_cell 31 (.tmp 26) rfl Try.underlying31 rfl ⟨g, 1, none⟩ rfl _ (hW.cell HFC.out)) ?_
      iterate 3 (refine wpMix_step rfl (fun K hK => ?_); go_simp; (try go_bits); with_reducible refine hK _ ?_; clear hK K)
      refine wpMix_pureW _ rfl rfl (fun W hW => run_load_cell 31 (.tmp 30) rfl Try.underlying31 rfl ⟨g, 1, none⟩ rfl _ (hW.cell HFC.out)) ?_
      iterate 3 (refine wpMix_step rfl (fun K hK => ?_); go_simp; (try go_bits); with_reducible refine hK _ ?_; clear hK K)
      refine wpMix_pureW (.agg (c8 y).toArray) rfl rfl (fun W hW => run_load_op 27 (.tmp 34) rfl Try.underlying27 rfl ⟨b, off + m1 * 32, none⟩ rfl _ IY.out (fun i u hi => hW.cell (HAY.out i u hi))) ?_
      refine wpMix_pureW (.agg (c8 d).toArray) rfl rfl (fun W hW => run_load_op 27 (.tmp 3) rfl Try.underlying27 rfl ⟨w.heap.size, 0, none⟩ rfl _ ID.out (fun i u hi => hW.cell (HDD.out i u hi))) ?_
      refine wpMix_loudW _ rfl rfl ?_
      go_wp2_with fail
      refine (cn _).mono ?_
      rintro e w5 ⟨rfl, hg⟩
      have hR2 := hR1.call hg
      clear hg hR1
      go_wp2_with fail
      refine wpMix_next' (fun _ => hR2) ?_
      have hS5 := hS.call hR2.grown
      refine wpMix_loudW _ rfl rfl ?_
      go_wp2_with (refine wp_storeAgg rfl 27 (.tmp 3) (.tmp 37) rfl w.heap.size 0 27 (c8 d) (c8 N) rfl rfl (hS5.row 0 rfl) INN.out FN.out (one8 _) ?_)
      intro w6 hr hg hz
      clear hz
      rw [splice_all EN.out] at hr
      have hS6 := hS5.setRow 0 rfl hr hg
      clear hr hg hS5 hS hR2 HFC HDD
      go_wp2_with fail
      refine wpMix_next' (fun h => absurd h (by decide)) ?_
      unfold wpMix
      go_wp2
      have hR := Own.start w6
      have HFC := Lib.hid (show w6.cell? ⟨g, 1, none⟩ = some (.slice (some ⟨b, off, none⟩) m c') from (hS6.row 1 rfl).cell 1)
      have hR1 := hR.drew
      clear hR
      refine wp_region_mixC (fun W => Own w6 W ([])) (fun i => i != 14) [(0, true), (1, true), (2, true), (3, true), (4, true), (5, true), (6, true), (7, true), (8, true), (9, true), (10, true), (11, true), (12, false), (13, false), (14, false)] (by kernel_rfl) (by kernel_rfl) (hR1) ?_
      iterate 4 (refine wpMix_step rfl (fun K hK => ?_); go_simp; (try go_bits); with_reducible refine hK _ ?_; clear hK K)
      refine wpMix_pureW _ rfl rfl (fun W hW => run_load_cell 31 (.tmp 41) rfl Try.underlying31 rfl ⟨g, 1, none⟩ rfl _ (hW.cell HFC.out)) ?_
      iterate 3 (refine wpMix_step rfl (fun K hK => ?_); go_simp; (try go_bits); with_reducible refine hK _ ?_; clear hK K)
      refine wpMix_pureW _ rfl rfl (fun W hW => run_load_cell 31 (.tmp 45) rfl Try.underlying31 rfl ⟨g, 1, none⟩ rfl _ (hW.cell HFC.out)) ?_
      iterate 3 (refine wpMix_step rfl (fun K hK => ?_); go_simp; (try go_bits); with_reducible refine hK _ ?_; clear hK K)
      refine wpMix_loudW _ rfl rfl ?_
      go_wp2_with fail
      refine wpMix_next' (fun _ => hR1) ?_
      refine wpMix_loudW _ rfl rfl ?_
      go_wp2_with fail
      refine wpMix_next' (fun _ => hR1) ?_
      have hS7 := hS6.call hR1.grown
      have cF := (hS7.row 1 rfl).cell 1
      simp only [frC, List.getElem?_cons_succ, List.getElem?_cons_zero] at cF
      have fF := (hS7.row 1 rfl).frozen 1
      refine wpMix_loudW _ rfl rfl ?_
      go_wp2_with fail
      clear cF fF
      refine wpMix_next' (fun h => absurd h (by decide)) ?_
      have hS8 := hS7.set 1 rfl 1 (.slice (some ⟨b, off, none⟩) m1 c')
      have hS9 := hS8.turn (i := 2) rfl (rowsE_good base 27 (.slice (some ⟨b, off, none⟩) m1 c') (T'.take m1)) (ownsR_cut (hS8.rows 2 rfl) HLE.out) rfl
      clear hS6 hS7 hS8 HFC hR1
      unfold wpMix
      go_wp2
      go_roundw
      case rel => exact ⟨h, N, .slice (some ⟨b, off, none⟩) m1 c', T'.take m1, by go_num, HK2.out, HNL, HO1, HL62, HC1, hS9⟩
      case measure => have := HK.out; simp [intOf] <;> omega
    · have he : k % 2 = 0 := by omega
      have e1 : (k : Int).tmod 2 = 0 := by rw [Int.tmod_eq_emod_of_nonneg (by omega)]; omega
      have e1' : (k : Int) % 2 = 0 := by omega
      have HRE := Lib.hid (show carryL T n leaf = T' ++ [d] by rw [← HR.out, carryL_even T' k d he])
      have HAD := Lib.hid (show L32 [d] from fun z hz => by rw [List.mem_singleton.1 hz]; exact HD.out)
      have HDD := Lib.hid (row_all (hS.row 0 rfl))
      clear hodd he hR' hc' hh
      obtain ⟨m, hm⟩ : ∃ m, m = T'.length := ⟨_, rfl⟩
      rw [← hm] at hS
      clear hm
      have HFC := Lib.hid (show wr.cell? ⟨g, 1, none⟩ = some (.slice A' m c') from (hS.row 1 rfl).cell 1)
      go_wp2
      have hS1 := hS.drew
      clear hS
      refine wp_region_mixC (fun W => Own w0 W ([rowE w.heap.size 27 (c8 d), rowE g 82 (frC n (.slice A' m c'))])) (fun i => i != 10) [(0, true), (1, true), (2, true), (3, true), (4, true), (5, true), (6, false), (7, false), (8, false), (9, false), (10, false)] (by kernel_rfl) (by kernel_rfl) (hS1.sub (List.Sublist.cons_cons _ (List.Sublist.cons_cons _ (List.nil_sublist _)))) ?_
      iterate 4 (refine wpMix_step rfl (fun K hK => ?_); go_simp; (try go_bits); with_reducible refine hK _ ?_; clear hK K)
      refine wpMix_pureW _ rfl rfl (fun W hW => run_load_cell 31 (.tmp 55) rfl Try.underlying31 rfl ⟨g, 1, none⟩ rfl _ ((hW.row 1 rfl).cell 1)) ?_
      refine wpMix_pureW (.agg (c8 d).toArray) rfl rfl (fun W hW => run_load_op 27 (.tmp 3) rfl Try.underlying27 rfl ⟨w.heap.size, 0, none⟩ rfl _ ID.out (row_all (hW.row 0 rfl))) ?_
      refine wpMix_loudW _ rfl rfl ?_
      go_wp2_with (refine wp_built1 rfl 31 (.tmp 57) rfl 27 Try.underlying31 32 info_zd (by omega) (by omega) (c8 d) (by rw [c8_length]; exact HD.out) rfl ?_)
      intro w5 hr hg
      have hS2 := hS1.new hr hg
      clear hS1 hr hg
      go_wp2_with fail
      refine wpMix_next' (fun _ => hS2.tail.sub (List.Sublist.cons_cons _ (List.Sublist.cons_cons _ (List.nil_sublist _)))) ?_
      have hbase : base ≤ w5.heap.size := Nat.le_trans HB.out hS2.size
      refine wpMix_loudW _ rfl rfl ?_
      go_wp2_with (refine wp_appR rfl (.tmp 56) (.tmp 58) 31 rfl 27 Try.underlying31 info_rd T' (T' ++ [d]) rfl (hS2.rows 3 rfl) _ 1 1 [d] rfl HAD.out (by simpa using src_row (hS2.row 0 rfl)) rfl rfl (by have := HL63.out; simp; omega) hbase ?_)
      intro v2' w6 ho hg hv
      have hS3 := (hS2.appendR 3 rfl ho hg (by first | exact hv | simpa using hv)).tail
      obtain ⟨A7, c7, hv7, _, _⟩ := ownsR_open ho
      clear hS2 ho hg hv hbase
      obtain ⟨q7, hq7⟩ : ∃ q7, q7 = (T' ++ [d]).length := ⟨_, rfl⟩
      rw [← hq7] at hv7
      clear hq7
      subst hv7
      go_wp2_with fail
      refine wpMix_next' (fun _ => hS3.sub (List.Sublist.cons_cons _ (List.Sublist.cons_cons _ (List.nil_sublist _)))) ?_
      change Own w0 w6 (rowE w.heap.size 27 (c8 d) :: rowE g 82 (frC n (.slice A' m c')) :: rowsE base 27 (.slice A7 q7 c7) (T' ++ [d]) :: L) at hS3
      refine wpMix_loudW _ rfl rfl ?_
      go_wp2_with fail
      refine wpMix_next' (fun _ => hS3.sub (List.Sublist.cons_cons _ (List.Sublist.cons_cons _ (List.nil_sublist _)))) ?_
      refine wpMix_loudW _ rfl rfl ?_
      go_wp2_with fail
      refine wpMix_next' (fun _ => hS3.sub (List.Sublist.cons_cons _ (List.Sublist.cons_cons _ (List.nil_sublist _)))) ?_
      have cF := (hS3.row 1 rfl).cell 1
      simp only [frC, List.getElem?_cons_succ, List.getElem?_cons_zero] at cF
      have fF := (hS3.row 1 rfl).frozen 1
      refine wpMix_loudW _ rfl rfl ?_
      go_wp2_with fail
      clear cF fF
      refine wpMix_next' (fun h => absurd h (by decide)) ?_
      have hS4 : Own w0 (w6.setCell ⟨g, 1, none⟩ (.slice A7 q7 c7)) (rowE w.heap.size 27 (c8 d) :: rowE g 82 (frC n (.slice A7 q7 c7)) :: rowsE base 27 (.slice A7 q7 c7) (T' ++ [d]) :: L) := hS3.set 1 rfl 1 (.slice A7 q7 c7)
      clear hS3
      obtain ⟨w7, hw7⟩ : ∃ w7, w7 = w6.setCell ⟨g, 1, none⟩ (.slice A7 q7 c7) := ⟨_, rfl⟩
      rw [← hw7] at hS4 ⊢
      clear hw7
      unfold wpMix
      have c0 := (hS4.row 1 rfl).cell 0
      simp only [frC, List.getElem?_cons_zero] at c0
      have f0 := (hS4.row 1 rfl).frozen 0
      go_wp2
      clear c0 f0
      go_ret
      have hS5 := (hS4.set 1 rfl 0 (.int .i64 ((n : Int) + 1))).tail
      refine ⟨.slice A7 q7 c7, rfl, ?_⟩
      rw [HRE.out]
      exact hS5
end Go.Proofs.Ytpohjldhbaalbaa
