/- The contracts of the document's Twin and Write. -/
import Derived.Test.YtpohjldhbaalbaaRBlock
import Derived.Test.YtpohjldhbaalbaaDSum
namespace Go.Proofs.Ytpohjldhbaalbaa
set_option linter.unusedVariables false
set_option linter.unusedSimpArgs false
set_option linter.unusedSectionVars false
open Go.RowKit

theorem own_base {w : World} {base base' : Nat} {e : TypeId} {s : Nat} {v : Value} {n : Nat} {xs : List Value} (h : w.ownsRow base e s v n xs) (hb : base' ≤ base) : w.ownsRow base' e s v n xs := by
  refine ⟨h.1, ?_⟩
  rcases h.2 with h0 | ⟨g, cap, cur, hv, hg, hr⟩
  · exact .inl h0
  · exact .inr ⟨g, cap, cur, hv, Nat.le_trans hb hg, hr⟩

set_option maxRecDepth 100000 in
set_option maxHeartbeats 1000000 in
theorem twin_any (c : Nat) (A : Option Addr) (p : List UInt8) (w : World) (hp : Bytes w A p) (hl : p.length ≤ 140737488355328) :
    Calls Try.prog 70 #[.slice A p.length c] w fun e w' => ∃ v', e = .returned v' ∧ w'.ownsRow w.heap.size 5 1 v' p.length (c8 p) ∧ w.grownBy w' none := by
  go_enter Try.func70, Try.ntmps70
  go_wp2
  go_loopw [3, 4] (fun sv i wr => ∃ k : Nat, k ≤ p.length ∧ i = .int .i64 k ∧ wr.ownsRow w.heap.size 5 1 sv k (c8 (p.take k)) ∧ w.grownBy wr none) (fun _ i _ => p.length - (intOf i).toNat)
  case atStart => exact ⟨0, by omega, rfl, by simpa [c8] using World.ownsRow_nil w w.heap.size 5 1, grownBy_refl _ _⟩
  case round =>
    obtain ⟨k, hk, rfl, ho, hg⟩ := hrel
    have hz := hg.size
    have hbo : u3.ownBlock = none ∨ ∃ g, u3.ownBlock = some g ∧ w.heap.size ≤ g := by
      cases hu : u3.ownBlock with
      | none => exact .inl rfl
      | some g => exact .inr ⟨g, rfl, (ho.lt g hu).1⟩
    by_cases hlt : k < p.length
    · obtain ⟨b, off, rfl, hb, hc⟩ := hp.at_ (by omega)
      have c0 := hg.cell (hc k hlt) (by simp)
      obtain ⟨x, hx⟩ : ∃ x, x = p.getD k 0 := ⟨_, rfl⟩
      rw [← hx] at c0
      have HX := Lib.hid hx
      have q1 : (k : Int) < p.length := by omega
      clear hx hc hp
      go_wp2_with (refine wp_append1 rfl (.tmp 11) (.tmp 16) 23 rfl w.heap.size 5 (.int .u8 0) 1 Try.underlying23 info_u8 rfl _ k (c8 (p.take k)) rfl (ho.alloc _) _ 1 1 [.int .u8 (n8 x)] rfl (.inr ⟨_, rfl, cell_one_new _ _ _⟩) rfl (by simp [Value.oneCell']) (by unfold maxLen; omega) (by omega) (by simp; omega) ?_)
      intro v' w1 ho1 hg1 _
      rw [c8_snoc, HX.out, ← take_snoc8 p k hlt] at ho1
      have hg2 : w.grownBy w1 none := by
        rcases hbo with h | ⟨g, h, hgg⟩
        · rw [h] at hg1; exact grownBy_trans (grownBy_alloc' hg _) hg1
        · rw [h] at hg1; exact grownBy_in (grownBy_alloc' hg _) hg1 hgg
      clear hg1 ho hg hz hbo c0
      go_wp2
      go_roundw
      case rel => exact ⟨k + 1, by omega, by go_num, ho1, hg2⟩
      case measure => simp [intOf]; omega
    · have hke : k = p.length := by omega
      rw [hke, List.take_length] at ho
      clear hke hbo
      go_wp2
      go_ret
      exact ⟨_, rfl, ho, hg⟩

/-- the cells of the document's State -/
def rsCells (v : V8) (n : Nat) (sl : Value) : List Value := c32 (wordsOf v) ++ [.int .u64 (n : Int), sl]
def zrs : List Value := c32 (List.replicate 8 0) ++ [.int .u64 0, .slice none 0 0]
theorem alloc_rs (W : World) : (Instr.alloc 93 true (.tuple #[])).run Try.prog W = .ok (.pointer (some ⟨W.heap.size, 0, none⟩)) (W.alloc (.cells zrs.toArray 93)) := by kernel_rfl
theorem rs_set8 (v : V8) (n m : Nat) (sl : Value) : (rsCells v n sl).set 8 (.int .u64 (m : Int)) = rsCells v m sl := rfl
theorem rs_set9 (v : V8) (n : Nat) (sl sl' : Value) : (rsCells v n sl).set 9 sl' = rsCells v n sl' := rfl
theorem rs_splice (v v' : V8) (n : Nat) (sl : Value) : splice (rsCells v n sl) 0 (c32 (wordsOf v')) = rsCells v' n sl := rfl
theorem feed1_lt (s : V8 × List UInt8) (x : UInt8) (h : s.2.length + 1 < 64) : feed s [x] = (s.1, s.2 ++ [x]) := by
  show feed1 s x = _
  unfold feed1; rw [if_neg (by simp; omega)]
theorem feed1_eq (s : V8 × List UInt8) (x : UInt8) (h : s.2.length + 1 = 64) : feed s [x] = (compress s.1 (s.2 ++ [x]), []) := by
  show feed1 s x = _
  unfold feed1; rw [if_pos (by simp; omega)]

set_option maxRecDepth 100000 in
set_option maxHeartbeats 2000000 in
theorem rwrite_own (n c0 c1 : Nat) (A B : Option Addr) (v : V8) (t p : List UInt8) (w : World) (ht : Bytes w A t) (htl : t.length < 64) (hp : Bytes w B p) (hn : n + p.length < 18446744073709551616) (hpl : p.length ≤ 9223372036854775807) :
    Calls Try.prog 61 #[.agg (rsCells v n (.slice A t.length c0)).toArray, .slice B p.length c1] w
      fun e w' => ∃ (A' : Option Addr) (c' : Nat), e = .returned (.agg (rsCells (feed (v, t) p).1 (n + p.length) (.slice A' (feed (v, t) p).2.length c')).toArray) ∧
        w'.ownsRow w.heap.size 5 1 (.slice A' (feed (v, t) p).2.length c') (feed (v, t) p).2.length (c8 (feed (v, t) p).2) ∧ w.grownBy w' none := by
  go_enter Try.func61, Try.ntmps61
  go_wp2_with (refine wp_box (o := ⟨some 2, _, _, _, _, _⟩) rfl 93 (.tmp 0) rfl (rsCells v n (.slice A t.length c0)) rfl ?_)
  intro w1 hs1 hg1 hz1
  have HZ1 := Lib.hid hz1
  clear hz1
  go_wp2_with (refine wp_alloc (o := ⟨some 4, _, _, _, _, _⟩) rfl 93 rfl _ alloc_rs ?_)
  intro w2 hr2 hg2 hz2
  have HZ2 := Lib.hid hz2
  have hs2 := hs1.grown hg2 (by simp)
  have hg02 := grownBy_trans hg1 hg2
  have c9 : w2.cell? ⟨w.heap.size, 9, none⟩ = some (.slice A t.length c0) := hs2.cell 9
  clear hz2 hs1 hg1 hg2
  go_wp2_with fail
  refine (twin_any c0 A t _ (ht.keep hg02) (by omega)).mono ?_
  rintro e w3 ⟨tv, rfl, ho3, hg3⟩
  have hs3 := hs2.grown hg3 (by simp)
  have hr3 := hr2.grown hg3 (by simp)
  have hg03 := grownBy_trans hg02 hg3
  have n0 : w.heap.size < w1.heap.size := by have := HZ1.out; omega
  have n1 : w1.heap.size < w2.heap.size := by have := HZ2.out; omega
  have n2 : w2.heap.size ≤ w3.heap.size := hg3.size
  clear hs2 hr2 hg02 hg3 c9 HZ1 HZ2 ht
  go_wp2
  go_loopw [5, 6] (fun sv i wr => ∃ (k : Nat) (v' : V8) (t' : List UInt8), k ≤ p.length ∧ feed (v, t) (p.take k) = (v', t') ∧ i = .int .i64 k ∧ wr.ownsRow w2.heap.size 5 1 sv t'.length (c8 t') ∧
      Row wr w.heap.size 93 (rsCells v' n (.slice A t.length c0)) ∧ Row wr w1.heap.size 93 zrs ∧ w.grownBy wr none ∧ w2.heap.size ≤ wr.heap.size) (fun _ i _ => p.length - (intOf i).toNat)
  case atStart => exact ⟨0, v, t, by omega, by simp [feed], rfl, ho3, hs3, hr3, hg03, n2⟩
  case round =>
    clear ho3 hs3 hr3 hg03
    obtain ⟨k, v', t', hk, hf, rfl, ho, hs, hr, hg, hz⟩ := hrel
    have hbo := own_block ho
    have ht64 : t'.length < 64 := by have := feed_tail_lt (v, t) (p.take k) htl; rw [hf] at this; exact this
    by_cases hlt : k < p.length
    · obtain ⟨b, off, rfl, hb, hc⟩ := hp.at_ (by omega)
      have c0' := hg.cell (hc k hlt) (by simp)
      obtain ⟨x, hx⟩ : ∃ x, x = p.getD k 0 := ⟨_, rfl⟩
      rw [← hx] at c0'
      have HX := Lib.hid hx
      have HF := Lib.hid hf
      have q1 : (k : Int) < p.length := by omega
      clear hx hc hp hf
      go_wp2_with (refine wp_append1 rfl (.tmp 16) (.tmp 21) 23 rfl w2.heap.size 5 (.int .u8 0) 1 Try.underlying23 info_u8 rfl _ t'.length (c8 t') rfl (ho.alloc _) _ 1 1 [.int .u8 (n8 x)] rfl (.inr ⟨_, rfl, cell_one_new _ _ _⟩) rfl (by simp [Value.oneCell']) (by unfold maxLen; omega) (by omega) (by simp; omega) ?_)
      intro sv' w4 ho4 hg4 _
      have hne : ∀ {g : Nat}, g < w2.heap.size → some g ≠ u5.ownBlock := by
        intro g hgl he
        rcases hbo with h | ⟨g', h, hgg⟩
        · rw [h] at he; cases he
        · rw [h] at he; injection he with he; omega
      have hs4 := (hs.alloc (Obj.cells #[.int .u8 (n8 x)] 5)).grown hg4 (hne (by omega))
      have hr4 := (hr.alloc (Obj.cells #[.int .u8 (n8 x)] 5)).grown hg4 (hne (by omega))
      have hg04 := grown_own (grownBy_alloc' hg (Obj.cells #[.int .u8 (n8 x)] 5)) hg4 hbo (by omega)
      have hz4 : w2.heap.size ≤ w4.heap.size := by have := hg4.size; simp at this; omega
      rw [c8_snoc] at ho4
      have hfs : feed (v, t) (p.take (k + 1)) = feed (v', t') [x] := by rw [take_snoc8 p k hlt, ← HX.out, feed_append, HF.out]
      have HFS := Lib.hid hfs
      clear hfs ho hs hr hg hg4 hbo hne c0' hz
      by_cases h64 : t'.length + 1 = 64
      · rw [h64] at ho4
        obtain ⟨gp, cap, rfl, hgp, hlt4, hcap, hmax, hcell⟩ := own_form ho4 (by omega)
        have H64 := Lib.hid h64
        unfold maxLen at hmax
        have hba : BytesAt w4 gp 0 (t' ++ [x]) := fun j hj => by rw [Nat.zero_add, hcell j _ (c8_get _ j hj)]
        have hw8 := Lib.hid (show ∀ j u, (c32 (wordsOf v'))[j]? = some u → w4.cell? ((⟨w.heap.size, 0, none⟩ : Addr).add j) = some u from row_cells (A := []) hs4 rfl)
        clear h64 ho4 hcell
        go_wp2_with (refine wp_loadAgg rfl 90 (.tmp 26) rfl Try.underlying90 rfl ⟨w.heap.size, 0, none⟩ rfl (c32 (wordsOf v')) (by kernel_rfl) hw8.out ?_)
        refine (rblock_any gp 0 64 cap v' (t' ++ [x]) _ hba (by have := H64.out; simp; omega) (by omega) (by omega)).mono ?_
        rintro e w5 ⟨rfl, hg5⟩
        have hs5 := Lib.hid (hs4.grown hg5 (by simp))
        have hr5 := hr4.grown hg5 (by simp)
        have hg05 := grownBy_trans hg04 hg5
        have hz5 : w2.heap.size ≤ w5.heap.size := by have := hg5.size; omega
        have hone := Lib.hid (one32 (wordsOf (compress v' (t' ++ [x]))))
        have hi33 := Lib.hid (show (Try.prog.info? 90).map (·.size) = some (c32 (wordsOf (compress v' (t' ++ [x])))).length by kernel_rfl)
        have hf33 := Lib.hid (show 0 + (c32 (wordsOf (compress v' (t' ++ [x])))).length ≤ (rsCells v' n (.slice A t.length c0)).length by simp [rsCells, wordsOf])
        clear hs4 hr4 hg04 hg5 hba hw8 hz4
        go_wp2_with (refine wp_storeAgg rfl 90 (.tmp 30) (.tmp 29) rfl w.heap.size 0 93 (rsCells v' n (.slice A t.length c0)) (c32 (wordsOf (compress v' (t' ++ [x])))) rfl rfl hs5.out hi33.out hf33.out hone.out ?_)
        intro w6 hs6 hg6 _
        rw [rs_splice] at hs6
        have hr6 := hr5.grown hg6 (by simp; omega)
        have hg06 := grownBy_in hg05 hg6 (by omega)
        have hz6 : w2.heap.size ≤ w6.heap.size := by have := hg6.size; omega
        clear hs5 hr5 hg05 hg6 hone hz5
        go_wp2
        go_roundw
        case rel => exact ⟨k + 1, _, [], by omega, by rw [HFS.out, feed1_eq _ _ (by exact H64.out)], by go_num, World.ownsRow_nil _ _ _ _, hs6, hr6, hg06, hz6⟩
        case measure => simp [intOf]; omega
      · obtain ⟨gp, cap, rfl, hgp, hlt4, hcap, hmax, hcell⟩ := own_form ho4 (by omega)
        have hf64 : ((t'.length : Int) + 1 == 64) = false := by simp; omega
        have hlt64 : t'.length + 1 < 64 := by omega
        clear hcell
        go_wp2
        go_roundw
        case rel => exact ⟨k + 1, v', t' ++ [x], by omega, by rw [HFS.out, feed1_lt (v', t') x hlt64], by go_num, by simpa using ho4, hs4, hr4, hg04, hz4⟩
        case measure => simp [intOf]; omega
    · have hke : k = p.length := by omega
      rw [hke, List.take_length] at hf
      clear hke hp
      obtain ⟨A', c', hu5, _, hlc, hcm⟩ := own_bytes ho
      subst hu5
      have hbk : ∀ g, g < w2.heap.size → (Value.slice A' t'.length c').ownBlock = none ∨ (Value.slice A' t'.length c').ownBlock ≠ some g := fun g hg => by
        rcases hbo with h | ⟨k, h, hk⟩
        · exact .inl h
        · exact .inr (by rw [h]; intro e; injection e; omega)
      have HO := Lib.hid (own_keep (own_keep ho (grownBy_set (grownBy_refl wr (some w.heap.size)) (p := ⟨w.heap.size, 8, none⟩) (.inr rfl) (.int .u64 ((n + p.length : Nat) : Int))) (hbk _ (by omega)))
        (grownBy_set (grownBy_refl _ (some w.heap.size)) (p := ⟨w.heap.size, 9, none⟩) (.inr rfl) (.slice A' t'.length c')) (hbk _ (by omega)))
      have HBK := Lib.hid hbk
      clear hbk
      have c8' : wr.cell? ⟨w.heap.size, 8, none⟩ = some (.int .u64 (n : Int)) := hs.cell 8
      have f8' := hs.frozen 8
      have c9' : wr.cell? ⟨w.heap.size, 9, none⟩ = some (.slice A t.length c0) := hs.cell 9
      have f9' := hs.frozen 9
      have hs9 := ((hs.set 8 (.int .u64 ((n + p.length : Nat) : Int))).set 9 (.slice A' t'.length c'))
      rw [rs_set8, rs_set9] at hs9
      have hr9 := (hr.far (p := ⟨w.heap.size, 8, none⟩) (by simp; omega) (.int .u64 ((n + p.length : Nat) : Int))).far (p := ⟨w.heap.size, 9, none⟩) (by simp; omega) (.slice A' t'.length c')
      have hsrc := Lib.hid (row_all hs9)
      have hg9 := grownBy_set (grownBy_set hg (p := ⟨w.heap.size, 8, none⟩) (.inl (by simp)) (.int .u64 ((n + p.length : Nat) : Int))) (p := ⟨w.heap.size, 9, none⟩) (.inl (by simp)) (.slice A' t'.length c')
      have hr9' := Lib.hid hr9
      have hone : ∀ u ∈ rsCells v' (n + p.length) (.slice A' t'.length c'), u.oneCell' = true := by
        intro u hu
        simp only [rsCells, List.mem_append, List.mem_cons, c32, List.mem_map, List.not_mem_nil, or_false] at hu
        rcases hu with ⟨x, _, rfl⟩ | rfl | rfl <;> rfl
      have hone' := Lib.hid hone
      have hi46 := Lib.hid (show (Try.prog.info? 93).map (·.size) = some (rsCells v' (n + p.length) (.slice A' t'.length c')).length by kernel_rfl)
      have hf46 := Lib.hid (show 0 + (rsCells v' (n + p.length) (.slice A' t'.length c')).length ≤ zrs.length by simp [rsCells, wordsOf, zrs])
      have HG := Lib.hid hg9
      have HF := Lib.hid hf
      clear hs hr ho hs9 hr9 hg9 hone hbo hf
      go_wp2_with (first | (refine wp_loadAgg rfl 93 (.tmp 2) rfl Try.underlying93 rfl ⟨w.heap.size, 0, none⟩ rfl (rsCells v' (n + p.length) (.slice A' t'.length c')) hi46.out hsrc.out ?_) | (refine wp_storeAgg rfl 93 (.tmp 4) (.tmp 40) rfl w1.heap.size 0 93 zrs (rsCells v' (n + p.length) (.slice A' t'.length c')) rfl rfl hr9'.out hi46.out hf46.out hone'.out ?_))
      intro w9 hrr hg10 _
      rw [splice_all (by simp [rsCells, wordsOf, zrs])] at hrr
      have hgall := grownBy_in HG.out hg10 (by omega)
      have hbt := own_base (own_keep HO.out hg10 (HBK.out _ (by omega))) (show w.heap.size ≤ w2.heap.size by omega)
      go_wp2
      refine bodyPost_ret (v := .agg (rsCells v' (n + p.length) (.slice A' t'.length c')).toArray) (results_cell_row rfl _ _ w1.heap.size _ _ _ _ rfl hrr Try.underlying93 rfl (by rw [List.size_toArray]; exact hi46.out)) rfl ⟨A', c', ?_, ?_, hgall⟩
      · rw [HF.out]
      · rw [HF.out]; exact hbt

theorem own_slice_bytes {w : World} {base : Nat} {e : TypeId} {A : Option Addr} {c : Nat} {t : List UInt8} (h : w.ownsRow base e 1 (.slice A t.length c) t.length (c8 t)) : Bytes w A t := by
  intro h0
  obtain ⟨A', c', he, hb, _⟩ := own_bytes h
  obtain ⟨b, hA, _, hc⟩ := hb h0
  injection he with h1
  exact ⟨b, 0, by rw [h1, hA], hc⟩
theorem rwrite_any (n c0 c1 : Nat) (A B : Option Addr) (v : V8) (t p : List UInt8) (w : World) (ht : Bytes w A t) (htl : t.length < 64) (hp : Bytes w B p) (hn : n + p.length < 18446744073709551616) (hpl : p.length ≤ 9223372036854775807) :
    Calls Try.prog 61 #[.agg (rsCells v n (.slice A t.length c0)).toArray, .slice B p.length c1] w
      fun e w' => ∃ (A' : Option Addr) (c' : Nat), e = .returned (.agg (rsCells (feed (v, t) p).1 (n + p.length) (.slice A' (feed (v, t) p).2.length c')).toArray) ∧
        Bytes w' A' (feed (v, t) p).2 ∧ w.grownBy w' none :=
  (rwrite_own n c0 c1 A B v t p w ht htl hp hn hpl).mono fun _ _ ⟨A', c', h1, h2, h3⟩ => ⟨A', c', h1, own_slice_bytes h2, h3⟩
end Go.Proofs.Ytpohjldhbaalbaa
