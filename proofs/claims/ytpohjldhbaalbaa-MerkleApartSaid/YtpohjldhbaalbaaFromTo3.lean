/- The contracts of the law's to, from and cut. -/
import Derived.Test.YtpohjldhbaalbaaOwn32
import Derived.Great.BuildSlice
namespace Go.Proofs.Ytpohjldhbaalbaa
set_option linter.unusedVariables false
set_option linter.unusedSimpArgs false
set_option linter.unusedSectionVars false
open Go.RowKit
set_option linter.unusedVariables false

/-- a slice literal of one array or struct -/
theorem wp_built1 {P : Program} {w : World} {ops : Array Oper} {rest : List Oper} {o : Oper} {a : Act} {Q : Exit → Act → World → Prop} (hgd : o.guard = none) (t : TypeId) (x : Operand) (ho : o.op = .buildSlice t 1 #[(0, x)])
    (e : TypeId) (hu : P.underlying t = some (.slice e)) (s : Nat) (hi : (P.info? e).map (fun i => (i.zero.isSome, i.size)) = some (true, s)) (hs : 0 < s) (hs2 : s ≤ 4096) (cs : List Value) (hl : cs.length = s) (hx : a.eval x = .agg cs.toArray)
    (h : ∀ w', Row w' w.heap.size e cs → w.grownBy w' none → wpList P ops Q rest (a.put o.dst (.slice (some ⟨w.heap.size, 0, none⟩) 1 1)) w') : wpList P ops Q (o :: rest) a w := by
  cases hq : P.info? e with
  | none => simp [hq] at hi
  | some i =>
    simp only [hq, Option.map_some, Option.some.injEq, Prod.mk.injEq] at hi
    obtain ⟨z, hz⟩ := Option.isSome_iff_exists.1 hi.1
    have hc : (Value.agg cs.toArray).cells.size = s := by simp [Value.cells, hl]
    have hfill := Go.Great.fill_whole hs [.agg cs.toArray] ((Array.range (1 * s)).map (z.cells[· % z.cells.size]!)) (fun v hv => by rw [List.mem_singleton.1 hv]; exact hc) (by simp)
    have e1 : (([Value.agg cs.toArray] : List Value).flatMap fun v => v.cells.toList).toArray = cs.toArray := by simp [Value.cells]
    rw [e1] at hfill
    refine wpList_buildSlice hgd t e 1 #[(0, x)] ho cs.toArray i z hu hq hz (by rw [hi.2]; omega) (by rw [hi.2]; omega) (by rw [hi.2]; simpa [hx] using hfill) ?_
    exact h _ (Row.new w e cs) (World.grownBy_alloc _ _ none)
theorem info_rd : (Try.prog.info? 27).map (fun i => (i.zero.map (fun z => z.cells.size), i.size, i.bytes)) = some (some 32, 32, 32) := by kernel_rfl
theorem info_ra : (Try.prog.info? 26).map (fun i => (i.zero.map (fun z => z.cells.size), i.size, i.bytes)) = some (some 32, 32, 32) := by kernel_rfl
theorem info_zd : (Try.prog.info? 27).map (fun i => (i.zero.isSome, i.size)) = some (true, 32) := by kernel_rfl
theorem info_za : (Try.prog.info? 26).map (fun i => (i.zero.isSome, i.size)) = some (true, 32) := by kernel_rfl

set_option maxRecDepth 100000 in
set_option maxHeartbeats 4000000 in
theorem from_any (A : Option Addr) (c : Nat) (L : List (List UInt8)) (w : World) (hL : Rows32 w A c L) (hmax : L.length ≤ 4398046511104) :
    Calls Try.prog 22 #[.slice A L.length c] w fun e w' => ∃ v, e = .returned v ∧ OwnsR w' w.heap.size 26 v L ∧ w.grownBy w' none := by
  have HL := Lib.hid hL
  have HM := Lib.hid hmax
  obtain ⟨n, hn⟩ : ∃ n, n = L.length := ⟨_, rfl⟩
  rw [← hn]
  have n0 : (0 : Int) ≤ (n : Int) := by omega
  have n1 : (n : Int) ≤ 4398046511104 := by omega
  have HN := Lib.hid hn
  have hS0 := (Own.start w).nilR w.heap.size 26
  clear hL hmax hn
  go_enter Try.func22, Try.ntmps22
  go_wp2
  go_loopw [3, 8] (fun v iv wr => ∃ k : Nat, k ≤ n ∧ iv = .int .i64 (k : Int) ∧ Own w wr [rowsE w.heap.size 26 v (L.take k)]) (fun _ iv _ => n - (intOf iv).toNat)
  case atStart => exact ⟨0, by omega, rfl, by rw [List.take_zero]; exact hS0⟩
  case round =>
    clear hS0
    obtain ⟨k, hk, rfl, hS⟩ := hrel
    by_cases hlt : k < n
    · have q1 : (k : Int) < (n : Int) := by omega
      have hkL : k < L.length := by have := HN.out; omega
      obtain ⟨b, off, rfl, hat⟩ := (HL.out.keep hS.grown).at_ k hkL
      have hXl := HL.out.all.at_ k hkL
      have htk : L.take (k + 1) = L.take k ++ [L.getD k []] := by rw [List.take_add_one, List.getElem?_eq_getElem hkL]; simp [hkL]
      have htl : (L.take k).length = k := by simp; omega
      obtain ⟨X, hX⟩ : ∃ X, X = L.getD k [] := ⟨_, rfl⟩
      rw [← hX] at hat hXl htk
      have HAT := Lib.hid hat
      have HXD := Lib.hid (info_dg X hXl)
      have HXL := Lib.hid hXl
      have HTK := Lib.hid htk
      have HTL := Lib.hid htl
      have HK := Lib.hid (show k < n from hlt)
      have HF := Lib.hid (show 0 + (c8 X).length ≤ zd.length by rw [c8_length, hXl]; decide)
      have HE := Lib.hid (show (c8 X).length = zd.length by rw [c8_length, hXl]; decide)
      clear hX hXl hat htk htl hkL hlt hk
      go_wp2_with (first | (refine wp_load rfl 27 (.tmp 10) rfl Try.underlying27 rfl ⟨b, off + k * 32, none⟩ rfl (c8 X) HXD.out HAT.out ?_) | (refine wp_alloc (o := ⟨some 5, _, _, _, _, _⟩) rfl 27 rfl _ alloc_d ?_))
      intro w5 hr hg hz
      clear hz
      have hS5 := hS.new hr hg
      clear hr hg hS
      go_wp2_with (refine wp_storeAgg rfl 27 (.tmp 5) (.tmp 11) rfl wr.heap.size 0 27 zd (c8 X) rfl rfl (hS5.row 0 rfl) HXD.out HF.out (one8 _) ?_)
      intro w6 hr hg hz
      clear hz
      rw [splice_all HE.out] at hr
      have hS6 := hS5.setRow 0 rfl hr hg
      clear hS5 hr hg
      go_wp2_with (first | (refine wp_load rfl 27 (.tmp 5) rfl Try.underlying27 rfl ⟨wr.heap.size, 0, none⟩ rfl (c8 X) HXD.out (row_all (hS6.row 0 rfl)) ?_) | (refine wp_built1 rfl 22 (.tmp 13) rfl 26 Try.underlying22 32 info_za (by omega) (by omega) (c8 X) (by rw [c8_length]; exact HXL.out) rfl ?_))
      intro w7 hr hg
      have hS7 := hS6.tail
      clear hS6
      have hS8 := hS7.new hr hg
      clear hS7 hr hg
      go_wp2_with (refine wp_appR rfl (.tmp 12) (.tmp 14) 22 rfl 26 Try.underlying22 info_ra (L.take k) (L.take (k + 1)) rfl (hS8.rows 1 rfl) _ 1 1 [X] rfl (fun y hy => by rw [List.mem_singleton.1 hy]; exact HXL.out) (by simpa using src_row (hS8.row 0 rfl)) rfl HTK.out (by rw [HTL.out]; have := HK.out; have := HM.out; have := HN.out; simp only [List.length_cons, List.length_nil]; omega) hS8.size ?_)
      intro v' w8 ho hg hv
      have hS9 := (hS8.appendR 1 rfl ho hg (by simpa using hv)).tail
      clear hS8 ho hg hv
      go_wp2
      go_roundw
      case rel => exact ⟨k + 1, by have := HK.out; omega, by go_num, hS9⟩
      case measure => have := HK.out; simp [intOf] <;> omega
    · obtain rfl : k = n := by omega
      rw [List.take_of_length_le (by rw [HN.out]; exact Nat.le_refl _)] at hS
      clear hlt hk
      go_wp2
      go_ret
      exact ⟨_, rfl, hS.rows 0 rfl, hS.grown⟩

set_option maxRecDepth 100000 in
set_option maxHeartbeats 4000000 in
theorem to_any (A : Option Addr) (c : Nat) (L : List (List UInt8)) (w : World) (hL : Rows32 w A c L) (hmax : L.length ≤ 4398046511104) :
    Calls Try.prog 18 #[.slice A L.length c] w fun e w' => ∃ v, e = .returned v ∧ OwnsR w' w.heap.size 27 v L ∧ w.grownBy w' none := by
  have HL := Lib.hid hL
  have HM := Lib.hid hmax
  obtain ⟨n, hn⟩ : ∃ n, n = L.length := ⟨_, rfl⟩
  rw [← hn]
  have n0 : (0 : Int) ≤ (n : Int) := by omega
  have n1 : (n : Int) ≤ 4398046511104 := by omega
  have HN := Lib.hid hn
  have hS0 := (Own.start w).nilR w.heap.size 27
  clear hL hmax hn
  go_enter Try.func18, Try.ntmps18
  go_wp2
  go_loopw [3, 8] (fun v iv wr => ∃ k : Nat, k ≤ n ∧ iv = .int .i64 (k : Int) ∧ Own w wr [rowsE w.heap.size 27 v (L.take k)]) (fun _ iv _ => n - (intOf iv).toNat)
  case atStart => exact ⟨0, by omega, rfl, by rw [List.take_zero]; exact hS0⟩
  case round =>
    clear hS0
    obtain ⟨k, hk, rfl, hS⟩ := hrel
    by_cases hlt : k < n
    · have q1 : (k : Int) < (n : Int) := by omega
      have hkL : k < L.length := by have := HN.out; omega
      obtain ⟨b, off, rfl, hat⟩ := (HL.out.keep hS.grown).at_ k hkL
      have hXl := HL.out.all.at_ k hkL
      have htk : L.take (k + 1) = L.take k ++ [L.getD k []] := by rw [List.take_add_one, List.getElem?_eq_getElem hkL]; simp [hkL]
      have htl : (L.take k).length = k := by simp; omega
      obtain ⟨X, hX⟩ : ∃ X, X = L.getD k [] := ⟨_, rfl⟩
      rw [← hX] at hat hXl htk
      have HAT := Lib.hid hat
      have HXD := Lib.hid (info_a32 X hXl)
      have HXL := Lib.hid hXl
      have HTK := Lib.hid htk
      have HTL := Lib.hid htl
      have HK := Lib.hid (show k < n from hlt)
      have HF := Lib.hid (show 0 + (c8 X).length ≤ zd.length by rw [c8_length, hXl]; decide)
      have HE := Lib.hid (show (c8 X).length = zd.length by rw [c8_length, hXl]; decide)
      clear hX hXl hat htk htl hkL hlt hk
      go_wp2_with (first | (refine wp_load rfl 26 (.tmp 10) rfl Try.underlying26 rfl ⟨b, off + k * 32, none⟩ rfl (c8 X) HXD.out HAT.out ?_) | (refine wp_alloc (o := ⟨some 5, _, _, _, _, _⟩) rfl 26 rfl _ alloc_d32 ?_))
      intro w5 hr hg hz
      clear hz
      have hS5 := hS.new hr hg
      clear hr hg hS
      go_wp2_with (refine wp_storeAgg rfl 26 (.tmp 5) (.tmp 11) rfl wr.heap.size 0 26 zd (c8 X) rfl rfl (hS5.row 0 rfl) HXD.out HF.out (one8 _) ?_)
      intro w6 hr hg hz
      clear hz
      rw [splice_all HE.out] at hr
      have hS6 := hS5.setRow 0 rfl hr hg
      clear hS5 hr hg
      go_wp2_with (first | (refine wp_load rfl 26 (.tmp 5) rfl Try.underlying26 rfl ⟨wr.heap.size, 0, none⟩ rfl (c8 X) HXD.out (row_all (hS6.row 0 rfl)) ?_) | (refine wp_built1 rfl 31 (.tmp 13) rfl 27 Try.underlying31 32 info_zd (by omega) (by omega) (c8 X) (by rw [c8_length]; exact HXL.out) rfl ?_))
      intro w7 hr hg
      have hS7 := hS6.tail
      clear hS6
      have hS8 := hS7.new hr hg
      clear hS7 hr hg
      go_wp2_with (refine wp_appR rfl (.tmp 12) (.tmp 14) 31 rfl 27 Try.underlying31 info_rd (L.take k) (L.take (k + 1)) rfl (hS8.rows 1 rfl) _ 1 1 [X] rfl (fun y hy => by rw [List.mem_singleton.1 hy]; exact HXL.out) (by simpa using src_row (hS8.row 0 rfl)) rfl HTK.out (by rw [HTL.out]; have := HK.out; have := HM.out; have := HN.out; simp only [List.length_cons, List.length_nil]; omega) hS8.size ?_)
      intro v' w8 ho hg hv
      have hS9 := (hS8.appendR 1 rfl ho hg (by simpa using hv)).tail
      clear hS8 ho hg hv
      go_wp2
      go_roundw
      case rel => exact ⟨k + 1, by have := HK.out; omega, by go_num, hS9⟩
      case measure => have := HK.out; simp [intOf] <;> omega
    · obtain rfl : k = n := by omega
      rw [List.take_of_length_le (by rw [HN.out]; exact Nat.le_refl _)] at hS
      clear hlt hk
      go_wp2
      go_ret
      exact ⟨_, rfl, hS.rows 0 rfl, hS.grown⟩
end Go.Proofs.Ytpohjldhbaalbaa
