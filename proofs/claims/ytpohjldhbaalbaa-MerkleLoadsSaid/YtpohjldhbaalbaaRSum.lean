/- The contracts of the document's Put, New, Close and Sum. -/
import Derived.Test.YtpohjldhbaalbaaRWrite
namespace Go.Proofs.Ytpohjldhbaalbaa
set_option linter.unusedVariables false
set_option linter.unusedSimpArgs false
set_option linter.unusedSectionVars false
open Go.RowKit
set_option linter.unusedVariables false

theorem beBytes_get (m : Nat) : ∀ (k j : Nat), j < k → (beBytes m k).getD j 0 = beByte m (k - 1 - j)
  | k + 1, 0, _ => by simp [beBytes]
  | k + 1, j + 1, h => by
    simp only [beBytes, List.getD_cons_succ]
    rw [beBytes_get m k j (by omega), show k + 1 - 1 - (j + 1) = k - 1 - j from by omega]

set_option maxRecDepth 100000 in
set_option maxHeartbeats 1000000 in
theorem rput_any (x y : Int) (m k : Nat) (w : World) (hx : x = (m : Int)) (hy : y = (k : Int)) (hk : k ≤ 8) (h1 : 1 ≤ k) (hm : m < 18446744073709551616) :
    Calls Try.prog 69 #[.int .u64 x, .int .i64 y] w fun e w' => ∃ v', e = .returned v' ∧ w'.ownsRow w.heap.size 5 1 v' k (c8 (beBytes m k)) ∧ w.grownBy w' none := by
  subst hx hy
  have d1 : decide ((k : Int) < 1) = false := by simp; omega
  have d2 : decide ((8 : Int) < k) = false := by simp; omega
  go_enter Try.func69, Try.ntmps69
  go_wp2
  go_loopw [5, 6] (fun sv i wr => ∃ q : Nat, q ≤ k ∧ i = .int .i64 ((q : Int) - 1) ∧ wr.ownsRow w.heap.size 5 1 sv (k - q) (c8 ((beBytes m k).take (k - q))) ∧ w.grownBy wr none) (fun _ i _ => (intOf i + 1).toNat)
  case atStart => exact ⟨k, by omega, rfl, by simpa [c8] using World.ownsRow_nil w w.heap.size 5 1, grownBy_refl _ _⟩
  case round =>
    obtain ⟨q, hq, rfl, ho, hg⟩ := hrel
    have hz := hg.size
    have hbo := own_block ho
    rcases Nat.eq_zero_or_pos q with h0 | h0
    · subst h0
      have e0 : (((0 : Nat) : Int) - 1) = -1 := rfl
      rw [e0]
      rw [Nat.sub_zero, List.take_of_length_le (by rw [beBytes_length]; omega)] at ho
      clear e0 hbo
      go_wp2
      go_ret
      exact ⟨_, rfl, ho, hg⟩
    · obtain ⟨r, hr⟩ : ∃ r, q = r + 1 := ⟨q - 1, by omega⟩
      have e1 : ((q : Int) - 1) = (r : Int) := by omega
      rw [e1]
      have r0 : (0 : Int) ≤ r := by omega
      have r1 : (r : Int) < 8 := by omega
      have hb : (m : Int) / 2 ^ (8 * r) % 256 = n8 (beByte m r) := (beByte_int m r).symm
      obtain ⟨L, hL⟩ : ∃ L, L = k - q := ⟨_, rfl⟩
      rw [← hL] at ho
      have hl8 : L ≤ 8 := by omega
      have HR := Lib.hid hr
      have HL := Lib.hid hL
      clear e1 hr hL
      go_wp2_with (refine wp_append1 rfl (.tmp 20) (.tmp 27) 23 rfl w.heap.size 5 (.int .u8 0) 1 Try.underlying23 info_u8 rfl _ L (c8 ((beBytes m k).take L)) rfl (ho.alloc _) _ 1 1 [.int .u8 (n8 (beByte m r))] rfl (.inr ⟨_, rfl, cell_one_new _ _ _⟩) rfl (by simp [Value.oneCell']) (by unfold maxLen; omega) (by omega) (by simp; omega) ?_)
      intro v' w1 ho1 hg1 _
      have hr := HR.out
      have hL := HL.out
      have hbb : (beBytes m k).getD L 0 = beByte m r := by rw [beBytes_get m k L (by omega), show k - 1 - L = r from by omega]
      rw [c8_snoc, ← hbb, ← take_snoc8 (beBytes m k) L (by rw [beBytes_length]; omega)] at ho1
      have hg2 := grown_own (grownBy_alloc' hg _) hg1 hbo (Nat.le_refl _)
      have hLr : k - r = L + 1 := by omega
      have HLR := Lib.hid hLr
      clear hg1 ho hg hz hbo hr hL hbb hLr hb
      go_wp2
      go_roundw
      case rel => exact ⟨r, by have := HR.out; omega, rfl, by rw [HLR.out]; exact ho1, hg2⟩
      case measure => simp [intOf] <;> omega

set_option maxRecDepth 100000 in
set_option maxHeartbeats 1000000 in
theorem rnew_any (w : World) :
    Calls Try.prog 62 #[] w fun e w' => e = .returned (.agg (rsCells begin0 0 (.slice none 0 0)).toArray) ∧ w.grownBy w' none := by
  go_enter Try.func62, Try.ntmps62
  go_wp2_with (refine wp_alloc (o := ⟨some 0, _, _, _, _, _⟩) rfl 93 rfl _ alloc_rs ?_)
  intro w1 hr1 hg1 hz1
  have HZ1 := Lib.hid hz1
  clear hz1
  go_wp2_with fail
  refine (begin_any _).mono ?_
  rintro e w2 ⟨rfl, hg2⟩
  have hr2 := Lib.hid (hr1.grown hg2 (by simp))
  have hg02 := grownBy_trans hg1 hg2
  clear hr1 hg1 hg2
  go_wp2_with (first | (refine wpList_val (o := ⟨some 2, _, _, _, _, _⟩) rfl (.agg (rsCells begin0 0 (.slice none 0 0)).toArray) ?_ ?_; · kernel_rfl) | (refine wp_storeAgg rfl 93 (.tmp 0) (.tmp 2) rfl w.heap.size 0 93 zrs (rsCells begin0 0 (.slice none 0 0)) rfl rfl hr2.out (by kernel_rfl) (by decide) (by decide) ?_))
  intro w3 hr3 hg3 _
  rw [splice_all (by decide)] at hr3
  go_wp2
  refine bodyPost_ret (v := .agg (rsCells begin0 0 (.slice none 0 0)).toArray) (results_cell_row rfl _ _ w.heap.size _ _ _ _ rfl hr3 Try.underlying93 rfl (by kernel_rfl)) rfl ⟨rfl, grownBy_in hg02 hg3 (Nat.le_refl _)⟩

theorem rs_one (v : V8) (n : Nat) (A : Option Addr) (l c : Nat) : ∀ u ∈ rsCells v n (.slice A l c), u.oneCell' = true := by
  intro u hu
  simp only [rsCells, List.mem_append, List.mem_cons, c32, List.mem_map, List.not_mem_nil, or_false] at hu
  rcases hu with ⟨x, _, rfl⟩ | rfl | rfl <;> rfl
theorem rs_info (v : V8) (n : Nat) (sl : Value) : (Try.prog.info? 93).map (·.size) = some (rsCells v n sl).length := by kernel_rfl
theorem rs_fit (v v' : V8) (n n' : Nat) (sl sl' : Value) : 0 + (rsCells v n sl).length ≤ (rsCells v' n' sl').length := by simp [rsCells, wordsOf]
theorem alloc_d32 (W : World) : (Instr.alloc 26 true (.tuple #[])).run Try.prog W = .ok (.pointer (some ⟨W.heap.size, 0, none⟩)) (W.alloc (.cells zd.toArray 26)) := by kernel_rfl

def cellInt (w : World) (a : Addr) : Int := match w.cell? a with | some (.int _ n) => n | _ => 0
theorem cellInt_of {w : World} {a : Addr} {k : IntKind} {n : Int} (h : w.cell? a = some (.int k n)) : cellInt w a = n := by unfold cellInt; rw [h]
theorem bytes_ne {w : World} {b off g n : Nat} {v : V8} {t : List UInt8} {A : Option Addr} {l c : Nat} (h : BytesAt w b off t) (ht : 0 < t.length) (hr : Row w g 93 (rsCells v n (.slice A l c))) : b ≠ g := by
  intro e
  subst e
  have h0 := h 0 ht
  rw [hr.cell] at h0
  have hm := List.mem_of_getElem? h0
  simp only [rsCells, List.mem_append, List.mem_cons, c32, List.mem_map, List.not_mem_nil, or_false, v32] at hm
  rcases hm with ⟨x, _, hx⟩ | hx | hx <;> cases hx
theorem Bytes.set_rs {w w' : World} {g n : Nat} {v : V8} {t : List UInt8} {A A' : Option Addr} {l c : Nat} (h : Bytes w A t) (hr : Row w g 93 (rsCells v n (.slice A' l c))) (hg : w.grownBy w' (some g)) : Bytes w' A t := by
  intro h0
  obtain ⟨b, off, hA, hc⟩ := h h0
  have hne := bytes_ne hc h0 hr
  exact ⟨b, off, hA, fun j hj => hg.cell (hc j hj) (by simpa using hne)⟩

def dIn (V : V8) (k m : Nat) : List UInt8 := splice (dMix V k) (4 * k) ((beBytes ((wordsOf V).getD k 0).toNat 4).take m)
theorem dIn_zero (V : V8) (k : Nat) : dIn V k 0 = dMix V k := by simp [dIn, splice]
theorem dIn_four (V : V8) (k : Nat) (h : k < 8) : c8 (dIn V k 4) = c8 (dMix V (k + 1)) := by
  rw [← dMix_step V k h, splice_c8, dIn, List.take_of_length_le (by rw [beBytes_length]; omega)]
theorem dIn_length (V : V8) (k m : Nat) (h : k < 8) (hm : m ≤ 4) : (dIn V k m).length = 32 := by
  rw [dIn, length_splice _ _ _ (by rw [List.length_take, beBytes_length, dMix_length V k (by omega)]; omega), dMix_length V k (by omega)]
theorem dIn_step (V : V8) (k m : Nat) (h : k < 8) (hm : m < 4) :
    (c8 (dIn V k m)).set (4 * k + m) (.int .u8 (n8 ((beBytes ((wordsOf V).getD k 0).toNat 4).getD m 0))) = c8 (dIn V k (m + 1)) := by
  match k, h, m, hm with
  | 0, _, 0, _ | 0, _, 1, _ | 0, _, 2, _ | 0, _, 3, _ | 1, _, 0, _ | 1, _, 1, _ | 1, _, 2, _ | 1, _, 3, _ | 2, _, 0, _ | 2, _, 1, _ | 2, _, 2, _ | 2, _, 3, _ | 3, _, 0, _ | 3, _, 1, _ | 3, _, 2, _ | 3, _, 3, _
  | 4, _, 0, _ | 4, _, 1, _ | 4, _, 2, _ | 4, _, 3, _ | 5, _, 0, _ | 5, _, 1, _ | 5, _, 2, _ | 5, _, 3, _ | 6, _, 0, _ | 6, _, 1, _ | 6, _, 2, _ | 6, _, 3, _ | 7, _, 0, _ | 7, _, 1, _ | 7, _, 2, _ | 7, _, 3, _ => rfl
theorem rs_cell (v : V8) (n : Nat) (sl : Value) (k : Nat) (h : k < 8) : (rsCells v n sl)[k]? = some (.int .u32 (n32 ((wordsOf v).getD k 0))) := by
  match k, h with
  | 0, _ | 1, _ | 2, _ | 3, _ | 4, _ | 5, _ | 6, _ | 7, _ => rfl

set_option maxRecDepth 100000 in
set_option maxHeartbeats 4000000 in
theorem rclose_any (n c0 : Nat) (A : Option Addr) (v : V8) (t : List UInt8) (w : World) (ht : Bytes w A t) (htl : t.length < 64) (hn : n ≤ 2305843009213693951) (htn : t.length = n % 64) :
    Calls Try.prog 60 #[.agg (rsCells v n (.slice A t.length c0)).toArray] w
      fun e w' => e = .returned (.agg (c8 (closeOf (v, t) n)).toArray) ∧ w.grownBy w' none := by
  have HTN := Lib.hid htn
  clear htn
  go_enter Try.func60, Try.ntmps60
  go_wp2_with (refine wp_box (o := ⟨some 1, _, _, _, _, _⟩) rfl 93 (.tmp 0) rfl (rsCells v n (.slice A t.length c0)) rfl ?_)
  intro w1 hs1 hg1 hz1
  have HZ1 := Lib.hid hz1
  clear hz1
  go_wp2_with (refine wp_alloc (o := ⟨some 2, _, _, _, _, _⟩) rfl 26 rfl _ alloc_d32 ?_)
  intro w2 hr2 hg2 hz2
  have hs2 := hs1.grown hg2 (by simp)
  have hg02 := grownBy_trans hg1 hg2
  have hz1 := HZ1.out
  have n0 : w.heap.size < w1.heap.size := by omega
  have n1 : w1.heap.size < w2.heap.size := by omega
  have c8' : w2.cell? ⟨w.heap.size, 8, none⟩ = some (.int .u64 (n : Int)) := hs2.cell 8
  have hsrc := Lib.hid (row_all hs2)
  have hi := Lib.hid (rs_info v n (.slice A t.length c0))
  clear hz1 hz2 hs1 hg1 hg2 HZ1
  go_wp2_with (refine wp_loadAgg rfl 93 (.tmp 1) rfl Try.underlying93 rfl ⟨w.heap.size, 0, none⟩ rfl (rsCells v n (.slice A t.length c0)) hi.out hsrc.out ?_)
  have hb1 : Bytes (w2.alloc (Obj.cells #[.int .u8 128] 5)) (some ⟨w2.heap.size, 0, none⟩) [128] := by
    intro _
    refine ⟨w2.heap.size, 0, rfl, fun j hj => ?_⟩
    obtain rfl : j = 0 := by simpa using hj
    exact (Row.new w2 5 [.int .u8 128]).cell 0
  refine (rwrite_any n c0 1 A _ v t [128] _ ((ht.keep hg02).keep (World.grownBy_alloc _ _ none)) htl hb1 (by simp; omega) (by simp)).mono ?_
  rintro e w3 ⟨A3, c3, rfl, hb3, hg3⟩
  have hs3 := Lib.hid ((hs2.alloc (Obj.cells #[.int .u8 128] 5)).grown hg3 (by simp))
  have hr3 := (hr2.alloc (Obj.cells #[.int .u8 128] 5)).grown hg3 (by simp)
  have hg03 := grownBy_trans (grownBy_alloc' hg02 (Obj.cells #[.int .u8 128] 5)) hg3
  have hz3 : w2.heap.size < w3.heap.size := by have := hg3.size; simp at this; omega
  obtain ⟨v3, t3, hf3⟩ : ∃ v3 t3, feed (v, t) [128] = (v3, t3) := ⟨_, _, rfl⟩
  rw [hf3] at hb3 ⊢
  have HF3 := Lib.hid hf3
  have hi3 := Lib.hid (rs_info v3 (n + 1) (.slice A3 t3.length c3))
  have ho3 := Lib.hid (rs_one v3 (n + 1) A3 t3.length c3)
  have hfit3 := Lib.hid (rs_fit v3 v (n + 1) n (.slice A3 t3.length c3) (.slice A t.length c0))
  clear hs2 hr2 hg02 hsrc hi hb1 hg3 hf3 c8'
  go_wp2_with (refine wp_storeAgg rfl 93 (.tmp 1) (.tmp 13) rfl w.heap.size 0 93 (rsCells v n (.slice A t.length c0)) (rsCells v3 (n + 1) (.slice A3 t3.length c3)) rfl rfl hs3.out hi3.out hfit3.out ho3.out ?_)
  intro w4 hs4 hg4 _
  rw [splice_all (by simp [rsCells, wordsOf])] at hs4
  have hb4 := hb3.set_rs hs3.out hg4
  have hr4 := hr3.grown hg4 (by simp; omega)
  have hg04 := grownBy_in hg03 hg4 (Nat.le_refl _)
  have hz4 : w2.heap.size < w4.heap.size := by have := hg4.size; omega
  clear hs3 hi3 ho3 hfit3 hb3 hr3 hg03 hg4 hz3
  go_wp2
  go_loopw [17] (fun _ wr => ∃ (j c' : Nat) (A' : Option Addr) (v' : V8) (t' : List UInt8), j ≤ zeros n ∧ feed (v, t) (128 :: List.replicate j 0) = (v', t') ∧ Row wr w.heap.size 93 (rsCells v' (n + 1 + j) (.slice A' t'.length c')) ∧
      Bytes wr A' t' ∧ Row wr w1.heap.size 26 zd ∧ w.grownBy wr none ∧ w2.heap.size < wr.heap.size) (fun _ wr => ((n : Int) + 100 - cellInt wr ⟨w.heap.size, 8, none⟩).toNat)
  case atStart => exact ⟨0, c3, A3, v3, t3, by omega, HF3.out, hs4, hb4, hr4, hg04, hz4⟩
  case round =>
    clear hs4 hb4 hr4 hg04 hz4 HF3
    obtain ⟨j, c', A', v', t', hj, hf, hs, hb, hr, hg, hz⟩ := hrel
    have hj64 := zeros_lt n
    have htl' : t'.length = (n + 1 + j) % 64 := by
      have h := feed_tail_len (v, t) (128 :: List.replicate j 0) htl
      rw [hf] at h
      have h2 := HTN.out
      simp at h; omega
    have c8' : wr.cell? ⟨w.heap.size, 8, none⟩ = some (.int .u64 ((n + 1 + j : Nat) : Int)) := hs.cell 8
    have c9' : wr.cell? ⟨w.heap.size, 9, none⟩ = some (.slice A' t'.length c') := hs.cell 9
    have hmeas := Lib.hid (cellInt_of c8')
    by_cases hlt : j < zeros n
    · have h56 : ((t'.length : Int) != 56) = true := by
        rw [bne_iff_ne]; have := zeros_at n j hlt; omega
      have HT := Lib.hid htl'
      have HF := Lib.hid hf
      have hsrc := Lib.hid (row_all hs)
      have hi := Lib.hid (rs_info v' (n + 1 + j) (.slice A' t'.length c'))
      clear htl' hf c8'
      go_wp2_with (refine wp_loadAgg rfl 93 (.tmp 1) rfl Try.underlying93 rfl ⟨w.heap.size, 0, none⟩ rfl (rsCells v' (n + 1 + j) (.slice A' t'.length c')) hi.out hsrc.out ?_)
      have hb1 : Bytes (wr.alloc (Obj.cells #[.int .u8 0] 5)) (some ⟨wr.heap.size, 0, none⟩) [0] := by
        intro _
        refine ⟨wr.heap.size, 0, rfl, fun j hj => ?_⟩
        obtain rfl : j = 0 := by simpa using hj
        exact (Row.new wr 5 [.int .u8 0]).cell 0
      refine (rwrite_any (n + 1 + j) c' 1 A' _ v' t' [0] _ (hb.keep (World.grownBy_alloc _ _ none)) (by have := HT.out; omega) hb1 (by simp; omega) (by simp)).mono ?_
      rintro e w5 ⟨A5, c5, rfl, hb5, hg5⟩
      have hs5 := Lib.hid ((hs.alloc (Obj.cells #[.int .u8 0] 5)).grown hg5 (by simp))
      have hr5 := (hr.alloc (Obj.cells #[.int .u8 0] 5)).grown hg5 (by simp)
      have hg05 := grownBy_trans (grownBy_alloc' hg (Obj.cells #[.int .u8 0] 5)) hg5
      have hz5 : w2.heap.size < w5.heap.size := by have := hg5.size; simp at this; omega
      obtain ⟨v5, t5, hf5⟩ : ∃ v5 t5, feed (v', t') [0] = (v5, t5) := ⟨_, _, rfl⟩
      rw [hf5] at hb5 ⊢
      have hff : feed (v, t) (128 :: List.replicate (j + 1) 0) = (v5, t5) := by
        rw [show (128 :: List.replicate (j + 1) (0 : UInt8)) = (128 :: List.replicate j 0) ++ [0] from by rw [List.replicate_succ']; rfl, feed_append, HF.out, hf5]
      have HFF := Lib.hid hff
      have hi5 := Lib.hid (rs_info v5 (n + 1 + (j + 1)) (.slice A5 t5.length c5))
      have ho5 := Lib.hid (rs_one v5 (n + 1 + (j + 1)) A5 t5.length c5)
      have hfit5 := Lib.hid (rs_fit v5 v' (n + 1 + (j + 1)) (n + 1 + j) (.slice A5 t5.length c5) (.slice A' t'.length c'))
      clear hs hr hg hsrc hi hb1 hg5 hf5 hff c9' h56 hz hb
      go_wp2_with (refine wp_storeAgg rfl 93 (.tmp 1) (.tmp 20) rfl w.heap.size 0 93 (rsCells v' (n + 1 + j) (.slice A' t'.length c')) (rsCells v5 (n + 1 + (j + 1)) (.slice A5 t5.length c5)) rfl rfl hs5.out hi5.out hfit5.out ho5.out ?_)
      intro w6 hs6 hg6 _
      rw [splice_all (by simp [rsCells, wordsOf])] at hs6
      have hb6 := hb5.set_rs hs5.out hg6
      have hr6 := hr5.grown hg6 (by simp; omega)
      have hg06 := grownBy_in hg05 hg6 (Nat.le_refl _)
      have hz6 : w2.heap.size < w6.heap.size := by have := hg6.size; omega
      have hm6 := Lib.hid (cellInt_of (show w6.cell? ⟨w.heap.size, 8, none⟩ = some (.int .u64 ((n + 1 + (j + 1) : Nat) : Int)) from hs6.cell 8))
      clear hs5 hi5 ho5 hfit5 hb5 hr5 hg05 hg6 hz5
      go_wp2
      go_roundw
      case rel => exact ⟨j + 1, c5, A5, v5, t5, by omega, HFF.out, hs6, hb6, hr6, hg06, hz6⟩
      case measure => rw [hm6.out, hmeas.out]; omega
    · have hje : j = zeros n := by omega
      have h56 : ((t'.length : Int) != 56) = false := by
        have h1 : t'.length = 56 := by rw [htl', hje]; have := zeros_end n; omega
        rw [h1]; rfl
      have HT := Lib.hid htl'
      have HF := Lib.hid hf
      have HJ := Lib.hid hje
      clear htl' hf hje c8'
      go_wp2
      clear h56 c9'
      refine wp_region_mixC (fun W => Row W w.heap.size 93 (rsCells v' (n + 1 + j) (.slice A' t'.length c'))) (fun i => i != 4) [(0, true), (1, true), (2, false), (3, false), (4, false)] (by kernel_rfl) (by kernel_rfl) hs.drew ?_
      refine wpMix_pure (.agg (rsCells v' (n + 1 + j) (.slice A' t'.length c')).toArray) rfl rfl (fun W hW => run_load_op 93 (.tmp 1) rfl Try.underlying93 rfl ⟨w.heap.size, 0, none⟩ rfl _ (rs_info _ _ _) (row_all hW)) ?_
      refine wpMix_step rfl (fun K hK => ?_); go_simp; (try go_bits); with_reducible refine hK _ ?_; clear hK K
      refine wpMix_loud _ rfl rfl ?_
      go_wp2_with fail
      refine (rput_any _ _ (8 * n) 8 _ (by omega) rfl (by omega) (by omega) (by omega)).mono ?_
      rintro e w5 ⟨pv, rfl, ho5, hg5⟩
      obtain ⟨A5, c5, hpv, hb5, hl5, hm5⟩ := own_bytes (t := beBytes (8 * n) 8) (by rw [beBytes_length]; exact ho5)
      subst hpv
      have hb5' : Bytes w5 A5 (beBytes (8 * n) 8) := fun h0 => by
        obtain ⟨b, hA, _, hc⟩ := hb5 h0
        exact ⟨b, 0, hA, hc⟩
      have hs5 := hs.drew.grown hg5 (by simp)
      have hr5 := hr.drew.grown hg5 (by simp)
      have hg05 := grownBy_trans (grownBy_drew hg) hg5
      have hbt5 := (Bytes.drew hb).keep hg5
      have hz5 : w2.heap.size < w5.heap.size := by have := hg5.size; simp at this; omega
      clear hs hr hg hb ho5 hb5 hg5 hz
      go_wp2_with fail
      refine wpMix_next' (fun _ => hs5) ?_
      refine wpMix_loud _ rfl rfl ?_
      go_wp2_with fail
      obtain ⟨⟨v6, t6⟩, hf6⟩ : ∃ x, feed (v', t') (beBytes (8 * n) 8) = x := ⟨_, rfl⟩
      obtain ⟨N, hN⟩ : ∃ N, N = n + 1 + j + 8 := ⟨_, rfl⟩
      have hcall := rwrite_any (n + 1 + j) c' c5 A' A5 v' t' (beBytes (8 * n) 8) w5 hbt5 (by have := HT.out; omega) hb5' (by rw [beBytes_length]; omega) (by rw [beBytes_length]; omega)
      rw [hf6] at hcall
      have hN' : n + 1 + j + (beBytes (8 * n) 8).length = N := by rw [beBytes_length, hN]
      rw [hN'] at hcall
      refine hcall.mono ?_
      rintro e w6 ⟨A6, c6, rfl, hb6, hg6⟩
      have hff : (feed (v, t) (padOf n)).1 = v6 := by
        rw [show padOf n = (128 :: List.replicate j 0) ++ beBytes (8 * n) 8 from by rw [HJ.out]; simp [padOf], feed_append, HF.out, hf6]
      have HFF := Lib.hid hff
      have hs6 := hs5.grown hg6 (by simp)
      have hs6' := Lib.hid hs6
      have hr6 := hr5.grown hg6 (by simp)
      have hg06 := grownBy_trans hg05 hg6
      have hz6 : w2.heap.size < w6.heap.size := by have := hg6.size; omega
      have hi6 := Lib.hid (rs_info v6 N (.slice A6 t6.length c6))
      have ho6 := Lib.hid (rs_one v6 N A6 t6.length c6)
      have hfit6 := Lib.hid (rs_fit v6 v' N (n + 1 + j) (.slice A6 t6.length c6) (.slice A' t'.length c'))
      clear hff hf6 hN hN' hcall hs5 hr5 hg05 hbt5 hb5' hg6 hb6
      go_wp2_with fail
      refine wpMix_next' (fun _ => hs6) ?_
      refine wpMix_loud _ rfl rfl ?_
      refine wp_storeAgg rfl 93 (.tmp 1) (.tmp 24) rfl w.heap.size 0 93 (rsCells v' (n + 1 + j) (.slice A' t'.length c')) (rsCells v6 N (.slice A6 t6.length c6)) rfl rfl hs6'.out hi6.out hfit6.out ho6.out ?_
      intro w7 hs7 hg7 hz67
      rw [splice_all (by simp [rsCells, wordsOf])] at hs7
      have hr7 := Lib.hid (hr6.grown hg7 (by simp; omega))
      have hg07 := grownBy_in hg06 hg7 (Nat.le_refl _)
      have hz7 : w2.heap.size < w7.heap.size := by have := hg7.size; omega
      clear hs6 hs6' hr6 hg06 hg7 hi6 ho6 hfit6 hz6 hz67
      refine wpMix_end (fun h => by cases h) ?_
      go_wp2_with (refine wp_alloc (o := ⟨some 4, _, _, _, _, _⟩) rfl 26 rfl _ alloc_d32 ?_)
      intro w8 hd8 hg8 hz8
      have HZ8 := Lib.hid hz8
      have hs8 := hs7.grown hg8 (by simp)
      have hr8 := hr7.out.grown hg8 (by simp)
      have hg08 := grownBy_trans hg07 hg8
      have n2 : w7.heap.size < w8.heap.size := by omega
      clear hz8 hs7 hr7 hg07 hg8
      go_wp2
      go_loopw [5] (fun i wq => ∃ k : Nat, k ≤ 8 ∧ i = .int .i64 k ∧ Row wq w7.heap.size 26 (c8 (dMix v6 k)) ∧ Row wq w.heap.size 93 (rsCells v6 N (.slice A6 t6.length c6)) ∧ Row wq w1.heap.size 26 zd ∧ w.grownBy wq none ∧ w7.heap.size < wq.heap.size) (fun i _ => 8 - (intOf i).toNat)
      case atStart => exact ⟨0, by omega, rfl, by rw [dMix_zero]; exact hd8, hs8, hr8, hg08, n2⟩
      case round =>
        clear hd8 hs8 hr8 hg08 n2
        rename World => w9
        obtain ⟨k, hk, rfl, hd, hs, hr, hg, hz⟩ := hrel
        by_cases hlt : k < 8
        · have ck := (hs.cell k).trans (rs_cell v6 N _ k hlt)
          obtain ⟨x, hx⟩ : ∃ x, x = (wordsOf v6).getD k 0 := ⟨_, rfl⟩
          rw [← hx] at ck
          have HX := Lib.hid hx
          have b1 := n32_lo x
          have b2 := n32_hi x
          have q1 : (k : Int) < 8 := by omega
          clear hx
          go_wp2_with fail
          refine (rput_any _ _ x.toNat 4 _ rfl rfl (by omega) (by omega) (by have := x.toNat_lt; omega)).mono ?_
          rintro e w10 ⟨pv, rfl, ho10, hg10⟩
          obtain ⟨gp, cap, rfl, hgp, hlt10, hcap, hmax, hcell⟩ := own_form ho10 (by omega)
          have hd10 := hd.grown hg10 (by simp)
          have hs10 := hs.grown hg10 (by simp)
          have hr10 := hr.grown hg10 (by simp)
          have hgg := grownBy_trans hg hg10
          have hz10 : w7.heap.size < w10.heap.size := by have := hg10.size; omega
          have hb10 : ∀ q, q < 4 → w10.cell? ⟨gp, q, none⟩ = some (.int .u8 (n8 ((beBytes x.toNat 4).getD q 0))) := fun q hq => hcell q _ (c8_get _ q (by rw [beBytes_length]; exact hq))
          have HB := Lib.hid hb10
          clear hd hs hr hg hg10 ho10 hcell ck hb10
          go_wp2
          go_loopw [7] (fun i wi => ∃ m : Nat, m ≤ 4 ∧ i = .int .i64 m ∧ Row wi w7.heap.size 26 (c8 (dIn v6 k m)) ∧ Row wi w.heap.size 93 (rsCells v6 N (.slice A6 t6.length c6)) ∧ Row wi w1.heap.size 26 zd ∧ w.grownBy wi none ∧
            w10.grownBy wi (some w7.heap.size)) (fun i _ => 4 - (intOf i).toNat)
          case atStart => exact ⟨0, by omega, rfl, by rw [dIn_zero]; exact hd10, hs10, hr10, hgg, grownBy_refl _ _⟩
          case round =>
            clear hd10 hs10 hr10 hgg
            rename World => w11
            obtain ⟨m, hm, rfl, hd, hs, hr, hg, hg11⟩ := hrel
            by_cases hlm : m < 4
            · have cm := hg11.cell (HB.out m hlm) (by simp; omega)
              obtain ⟨y, hy⟩ : ∃ y, y = (beBytes x.toNat 4).getD m 0 := ⟨_, rfl⟩
              rw [← hy] at cm
              have cd := (hd.cell (4 * k + m)).trans (c8_get _ _ (by rw [dIn_length v6 k m hlt hm]; omega))
              have fd := hd.frozen (4 * k + m)
              have hst := dIn_step v6 k m hlt hlm
              rw [← HX.out, ← hy] at hst
              have HST := Lib.hid hst
              have q2 : (m : Int) < 4 := by omega
              have q3 : (4 : Int) * k + m < 32 := by omega
              clear hy hst
              go_wp2
              go_roundw
              case rel =>
                refine ⟨m + 1, by omega, by go_num, ?_, hs.far (by simp; omega) _, hr.far (by simp; omega) _, grownBy_set hg (.inl (by simp; omega)) _, grownBy_set hg11 (.inr rfl) _⟩
                rw [← HST.out]; exact hd.set _ _
              case measure => simp [intOf]; omega
            · have hme : m = 4 := by omega
              rw [hme, dIn_four v6 k hlt] at hd
              have hz11 : w7.heap.size < w11.heap.size := by have := hg11.size; omega
              clear hme
              go_wp2
              go_roundw
              case rel => exact ⟨k + 1, by omega, by go_num, hd, hs, hr, hg, hz11⟩
              case measure => simp [intOf]; omega
        · have hke : k = 8 := by omega
          rw [hke, dMix_full] at hd
          have hsrc := Lib.hid (row_all hd)
          have hlb := Lib.hid (show (Try.prog.info? 26).map (·.size) = some (c8 (bytesOf v6)).length by rw [c8_length, bytesOf_length]; kernel_rfl)
          have hone := Lib.hid (one8 (bytesOf v6))
          have hfit := Lib.hid (show 0 + (c8 (bytesOf v6)).length ≤ zd.length by rw [c8_length, bytesOf_length]; decide)
          have hr' := Lib.hid hr
          clear hke hr hs
          go_wp2_with (first | (refine wp_loadAgg rfl 26 (.tmp 4) rfl Try.underlying26 rfl ⟨w7.heap.size, 0, none⟩ rfl (c8 (bytesOf v6)) hlb.out hsrc.out ?_) | (refine wp_storeAgg rfl 26 (.tmp 2) (.tmp 48) rfl w1.heap.size 0 26 zd (c8 (bytesOf v6)) rfl rfl hr'.out hlb.out hfit.out hone.out ?_))
          intro w12 hdr hg12 _
          rw [splice_all (by rw [c8_length, bytesOf_length]; decide)] at hdr
          go_wp2
          refine bodyPost_ret (v := .agg (c8 (bytesOf v6)).toArray) (results_cell_row rfl _ _ w1.heap.size _ _ _ _ rfl hdr Try.underlying26 rfl (by rw [List.size_toArray]; exact hlb.out)) rfl ⟨?_, grownBy_in hg hg12 (by omega)⟩
          show _ = Ending.returned (.agg (c8 (bytesOf (feed (v, t) (padOf n)).1)).toArray)
          rw [HFF.out]
end Go.Proofs.Ytpohjldhbaalbaa
