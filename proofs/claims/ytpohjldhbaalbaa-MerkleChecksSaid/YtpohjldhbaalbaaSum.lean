/- The contracts of (*State).Sum and digest.Sum. -/
import Derived.Test.YtpohjldhbaalbaaPut
import Derived.Test.YtpohjldhbaalbaaMix
namespace Go.Proofs.Ytpohjldhbaalbaa
set_option linter.unusedVariables false
set_option linter.unusedSimpArgs false
set_option linter.unusedSectionVars false
open Go.RowKit

theorem stCells_length (v : V8) (n : Nat) (buf : List UInt8) (h : buf.length = 64) : (stCells v n buf).length = 73 := by simp [stCells, wordsOf, h]
theorem st_one (v : V8) (n : Nat) (buf : List UInt8) : ∀ u ∈ stCells v n buf, u.oneCell' = true := by
  intro u hu
  simp only [stCells, List.mem_append, List.mem_cons, c32, c8, List.mem_map] at hu
  rcases hu with ⟨x, _, rfl⟩ | rfl | ⟨x, _, rfl⟩ <;> rfl
def dMix (V : V8) (k : Nat) : List UInt8 := (bytesOf V).take (4 * k) ++ List.replicate (32 - 4 * k) 0
theorem dMix_length (V : V8) (k : Nat) (h : k ≤ 8) : (dMix V k).length = 32 := by simp [dMix, bytesOf_length]; omega
theorem dMix_full (V : V8) : dMix V 8 = bytesOf V := by simp [dMix]; exact List.take_of_length_le (by rw [bytesOf_length]; omega)
theorem dMix_zero (V : V8) : c8 (dMix V 0) = c8 (List.replicate 32 0) := by simp [dMix]
theorem dMix_step (V : V8) (k : Nat) (h : k < 8) : splice (c8 (dMix V k)) (4 * k) (c8 (beBytes ((wordsOf V).getD k 0).toNat 4)) = c8 (dMix V (k + 1)) := by
  match k, h with
  | 0, _ | 1, _ | 2, _ | 3, _ | 4, _ | 5, _ | 6, _ | 7, _ => rfl
theorem put_octI (x y : Int) (m k : Nat) (w : World) (hx : x = (m : Int)) (hy : y = (k : Int)) (hk : k ≤ 8) (h1 : 1 ≤ k) (hm : m < 18446744073709551616) :
    Calls Try.prog 68 #[.int .u64 x, .int .i64 y] w fun e w' =>
      e = .returned (.slice (some ⟨w.heap.size, 0, none⟩) k k) ∧ Row w' w.heap.size 5 (c8 (beBytes m k)) ∧ w.grownBy w' none := by
  subst hx hy
  exact put_oct m k w hk h1 hm
theorem zeros_lt (n : Nat) : zeros n < 64 := by unfold zeros; omega
theorem zeros_at (n j : Nat) (h : j < zeros n) : (n + (j + 1)) % 64 ≠ 56 := by unfold zeros at h; omega
theorem zeros_end (n : Nat) : (n + (zeros n + 1)) % 64 = 56 := by unfold zeros; omega
theorem pad_snoc (j : Nat) : c8 (128 :: List.replicate j 0) ++ [.int .u8 0] = c8 (128 :: List.replicate (j + 1) 0) := by
  rw [List.replicate_succ']; simp [c8, v8]; rfl

def zd : List Value := c8 (List.replicate 32 0)
def zst : List Value := c32 (List.replicate 8 0) ++ (.int .u64 0 :: c8 (List.replicate 64 0))
theorem alloc_st (W : World) : (Instr.alloc 100 true (.tuple #[])).run Try.prog W = .ok (.pointer (some ⟨W.heap.size, 0, none⟩)) (W.alloc (.cells zst.toArray 100)) := by kernel_rfl
theorem alloc_d (W : World) : (Instr.alloc 27 true (.tuple #[])).run Try.prog W = .ok (.pointer (some ⟨W.heap.size, 0, none⟩)) (W.alloc (.cells zd.toArray 27)) := by kernel_rfl

set_option maxRecDepth 100000 in
set_option maxHeartbeats 4000000 in
theorem stsum_any (g n : Nat) (s : V8 × List UInt8) (w : World) (hs : Has w g s n) (hn : n ≤ 2305843009213693951) :
    Calls Try.prog 59 #[.pointer (some ⟨g, 0, none⟩)] w
      fun e w' => e = .returned (.agg (c8 (closeOf s n)).toArray) ∧ w.grownBy w' none := by
  obtain ⟨buf, hbl, hst, hbt, hr⟩ := hs
  have hglt := hr.lt
  have hrc := Lib.hid (row_all hr)
  have hln := Lib.hid (stCells_length s.1 n buf hbl)
  have hi80 : (Try.prog.info? 100).map (·.size) = some (stCells s.1 n buf).length := by rw [hln.out]; kernel_rfl
  have hi80' := Lib.hid hi80
  clear hi80
  go_enter Try.func59, Try.ntmps59
  go_wp2_with (refine wp_alloc (o := ⟨some 2, _, _, _, _, _⟩) rfl 27 rfl _ alloc_d ?_)
  intro w1 hd1 hg1 hz1
  have HZ1 := Lib.hid hz1
  clear hz1
  have hr1 := hr.grown hg1 (by simp)
  have hrc1 := Lib.hid (row_all hr1)
  go_wp2_with (first | (refine wp_loadAgg (o := ⟨some 13, _, _, _, _, _⟩) rfl 100 (.tmp 12) rfl Try.underlying100 rfl ⟨g, 0, none⟩ rfl (stCells s.1 n buf) hi80'.out hrc1.out ?_) | (refine wp_alloc (o := ⟨some 3, _, _, _, _, _⟩) rfl 100 rfl _ alloc_st ?_))
  intro w2 hs2 hg2 hz2
  have HZ2 := Lib.hid hz2
  clear hz2
  have hs2' := Lib.hid hs2
  have hrow2 := Lib.hid (show 0 + (stCells s.1 n buf).length ≤ zst.length by rw [hln.out]; decide)
  have hone := Lib.hid (st_one s.1 n buf)
  clear hs2
  go_wp2_with (refine wp_storeAgg rfl 100 (.tmp 3) (.tmp 13) rfl w1.heap.size 0 100 zst (stCells s.1 n buf) rfl rfl hs2'.out hi80'.out hrow2.out hone.out ?_)
  intro w3 hs3 hg3 hz3
  have hz1 := HZ1.out
  have hz2 := HZ2.out
  rw [splice_all (by rw [hln.out]; decide)] at hs3
  have hg03 := grownBy_in (grownBy_trans hg1 hg2) hg3 (by omega)
  have hd3 := (hd1.grown hg2 (by simp)).grown hg3 (by simp; omega)
  have hr3 := (hr1.grown hg2 (by simp)).grown hg3 (by simp; omega)
  have hz31 : w.heap.size < w1.heap.size := by omega
  have hz32 : w1.heap.size < w3.heap.size := by omega
  clear hz1 hz2 hz3
  clear hrc hi80' hs2' hrow2 hone hg1 hg2 hg3 hd1 hr1 hrc1 hr
  go_wp2_with (refine wp_make rfl 23 (.const (.int .i64 1)) (.const (.int .i64 72)) rfl 5 (.int .u8 0) 1 Try.underlying23 info_u8 rfl 1 72 rfl rfl (by omega) (by omega) (by omega) ?_)
  intro w4 hp4 hg4 hz4
  have hp4' : Row w4 w3.heap.size 5 (.int .u8 0 :: c8 (List.replicate 71 0)) := hp4
  have c0 : w4.cell? ⟨w3.heap.size, 0, none⟩ = some (.int .u8 0) := hp4'.cell 0
  have f0 := hp4'.frozen 0
  clear hz4 hp4
  go_wp2
  have hp5 : Row (w4.setCell ⟨w3.heap.size, 0, none⟩ (.int .u8 128)) w3.heap.size 5 (c8 [128] ++ c8 (List.replicate 71 0)) := hp4'.set 0 (.int .u8 128)
  have ho5 := own_of_row hp5 w3.heap.size (Nat.le_refl _) (by unfold maxLen; simp)
  have hs5 := (hs3.grown hg4 (by simp)).far (p := ⟨w3.heap.size, 0, none⟩) (by simp; omega) (.int .u8 128)
  have hd5 := (hd3.grown hg4 (by simp)).far (p := ⟨w3.heap.size, 0, none⟩) (by simp; omega) (.int .u8 128)
  have hr5 := (hr3.grown hg4 (by simp)).far (p := ⟨w3.heap.size, 0, none⟩) (by simp; omega) (.int .u8 128)
  have hg5 := grownBy_set (grownBy_trans hg03 hg4) (p := ⟨w3.heap.size, 0, none⟩) (.inl (by simp; omega)) (.int .u8 128)
  have hz35 : w3.heap.size < (w4.setCell ⟨w3.heap.size, 0, none⟩ (.int .u8 128)).heap.size := hp5.lt
  go_loopw [4] (fun sl wr => ∃ j gp cap : Nat, sl = .slice (some ⟨gp, 0, none⟩) (j + 1) cap ∧ j ≤ zeros n ∧ w3.heap.size ≤ gp ∧ wr.ownsRow w3.heap.size 5 1 sl (j + 1) (c8 (128 :: List.replicate j 0)) ∧
      Row wr w1.heap.size 100 (stCells s.1 n buf) ∧ Row wr w.heap.size 27 zd ∧ Row wr g 100 (stCells s.1 n buf) ∧ w.grownBy wr none ∧ w3.heap.size < wr.heap.size) (fun sl _ => 65 - lenOf sl)
  case atStart => exact ⟨0, w3.heap.size, 72, rfl, by omega, by omega, ho5, hs5, hd5, hr5, hg5, hz35⟩
  case round =>
    clear hp5 ho5 hs5 hd5 hr5 hg5 c0 f0 hp4' hg4 hs3 hd3 hr3 hg03 hz35
    obtain ⟨j, gp, cap, rfl, hj, hgp, ho, hst5, hd, hrg, hg, hz⟩ := hrel
    have hj64 : j < 64 := by have := zeros_lt n; omega
    have c8' := st_cell8 hst5
    by_cases hlt : j < zeros n
    · have ht : ((n : Int) + ((j : Int) + 1)) % 64 ≠ 56 := by have := zeros_at n j hlt; omega
      have ht' : (((n : Int) + ((j : Int) + 1)) % 64 != 56) = true := by rw [bne_iff_ne]; exact ht
      go_wp2_with (refine wp_append1 rfl (.tmp 25) (.tmp 26) 23 rfl w3.heap.size 5 (.int .u8 0) 1 Try.underlying23 info_u8 rfl _ (j + 1) (c8 (128 :: List.replicate j 0)) rfl (ho.alloc _) _ 1 1 [.int .u8 0] rfl (.inr ⟨_, rfl, cell_one_new _ _ _⟩) rfl (by simp [Value.oneCell']) (by unfold maxLen; omega) (by omega) (by simp; omega) ?_)
      intro v' w5 ho5 hg5 hat
      rw [pad_snoc] at ho5
      have hg5' : (wr.alloc (Obj.cells #[Value.int IntKind.u8 0] 5)).grownBy w5 (some gp) := hg5
      have hst6 := (hst5.alloc (Obj.cells #[Value.int IntKind.u8 0] 5)).grown hg5' (by simp; omega)
      have hd6 := (hd.alloc (Obj.cells #[Value.int IntKind.u8 0] 5)).grown hg5' (by simp; omega)
      have hrg6 := (hrg.alloc (Obj.cells #[Value.int IntKind.u8 0] 5)).grown hg5' (by simp; omega)
      have hg6 := grownBy_in (grownBy_alloc' hg (Obj.cells #[Value.int IntKind.u8 0] 5)) hg5' (by omega)
      have hz6 : w3.heap.size < w5.heap.size := by have := hg5'.size; simp at this; omega
      obtain ⟨gp', cap', rfl, hb', hl', _, _, _⟩ := own_form ho5 (by omega)
      clear ho hst5 hd hrg hg c8' ht ht' hg5 hat hg5'
      go_wp2
      go_roundw
      case rel => exact ⟨j + 1, gp', cap', rfl, by omega, hb', ho5, hst6, hd6, hrg6, hg6, hz6⟩
      case measure => simp [lenOf]; omega
    · have hje : j = zeros n := by omega
      have ht : ((n : Int) + ((j : Int) + 1)) % 64 = 56 := by have := zeros_end n; omega
      have ht' : (((n : Int) + ((j : Int) + 1)) % 64 != 56) = false := by rw [ht]; rfl
      have c8s := st_cell8 hrg
      have HJ := Lib.hid hje
      clear hje
      have hgrow1 : ∀ cs : List Value, True := fun _ => trivial
      clear hgrow1
      go_wp2_with fail
      refine (put_octI _ _ (8 * n) 8 _ (by omega) rfl (by omega) (by omega) (by omega)).mono ?_
      rintro e w5 ⟨rfl, hb5, hg5⟩
      have ho5 := own_keep ho hg5 (.inr (by simp [Value.ownBlock]))
      have hst6 := hst5.grown hg5 (by simp)
      have hd6 := hd.grown hg5 (by simp)
      have hg6 := grownBy_trans hg hg5
      have hz5 := hg5.size
      have hsrc := Lib.hid (row_all hb5)
      have hbl8 := Lib.hid (show (c8 (beBytes (8 * n) 8)).length = 8 by simp [beBytes_length])
      have hone8 := Lib.hid (show ∀ u ∈ c8 (beBytes (8 * n) 8), u.oneCell' = true by intro u hu; simp only [c8, List.mem_map] at hu; obtain ⟨x, _, rfl⟩ := hu; rfl)
      clear ho hst5 hd hrg hg hb5 hg5 c8' c8s ht ht'
      go_wp2_with (refine wp_append1 rfl (.tmp 28) (.tmp 34) 23 rfl w3.heap.size 5 (.int .u8 0) 1 Try.underlying23 info_u8 rfl _ (j + 1) (c8 (128 :: List.replicate j 0)) rfl ho5 _ 8 8 (c8 (beBytes (8 * n) 8)) rfl (.inr ⟨_, rfl, hsrc.out⟩) hbl8.out hone8.out (by unfold maxLen; omega) (by omega) (by omega) ?_)
      intro v' w6 ho7 hg7 hat
      have hg7' : w5.grownBy w6 (some gp) := hg7
      have hst7 := hst6.grown hg7' (by simp; omega)
      have hd7 := hd6.grown hg7' (by simp; omega)
      have hg8 := grownBy_in hg6 hg7' (by omega)
      have hz7 : w3.heap.size < w6.heap.size := by have := hg7'.size; omega
      have hpad : c8 (128 :: List.replicate j 0) ++ c8 (beBytes (8 * n) 8) = c8 (padOf n) := by
        rw [HJ.out]; simp [padOf, c8]
      have hpl : (padOf n).length = j + 1 + 8 := by rw [HJ.out]; simp [padOf, beBytes_length]
      rw [hpad, ← hpl] at ho7
      obtain ⟨gp', cap', rfl, hb', hl', hcap, hmax, hcell⟩ := own_form ho7 (by omega)
      unfold maxLen at hmax
      have hoff : BytesOff w6 w1.heap.size (some ⟨gp', 0, none⟩) (padOf n) := by
        intro _
        refine ⟨gp', 0, rfl, by omega, fun q hq => ?_⟩
        rw [Nat.zero_add, hcell q _ (c8_get _ q hq)]
      have hhas : Has w6 w1.heap.size s n := ⟨buf, hbl, hst, hbt, hst7⟩
      have HPL := Lib.hid hpl
      have HBT := Lib.hid hbt
      have HST := Lib.hid hst
      clear ho5 ho7 hst6 hd6 hg6 hsrc hbl8 hone8 hg7 hat hg7' hpad hpl hcell hst7 hbt hst
      go_wp2_with fail
      have hplle : (padOf n).length ≤ 72 := by have := HPL.out; omega
      refine (put_any w1.heap.size n cap' _ (padOf n) s _ hoff hcap hmax hhas (by omega)).mono ?_
      rintro e w7 ⟨rfl, hg9, hhas7⟩
      have hd8 := hd7.grown hg9 (by simp; omega)
      have hg10 := grownBy_in hg8 hg9 (by omega)
      have hz8 : w3.heap.size < w7.heap.size := by have := hg9.size; omega
      obtain ⟨buf7, hbl7, -, -, hr7⟩ := hhas7
      clear hoff hhas hd7 hg8 hg9 HBT HST HJ
      obtain ⟨V, hV⟩ : ∃ V, V = (feed s (padOf n)).1 := ⟨_, rfl⟩
      rw [← hV] at hr7
      have HV := Lib.hid hV
      clear hV
      have hw8 := Lib.hid (show ∀ j v, (c32 (wordsOf V))[j]? = some v → w7.cell? ((⟨w1.heap.size, 0, none⟩ : Addr).add j) = some v from row_cells (A := []) hr7 rfl)
      go_wp2_with (refine wp_alloc (o := ⟨some 5, _, _, _, _, _⟩) rfl 27 rfl _ alloc_d ?_)
      intro w8 hd9 hg11 hz9
      have HZ9 := Lib.hid hz9
      clear hz9
      have hr8 := hr7.grown hg11 (by simp)
      have hw9 := Lib.hid (show ∀ j v, (c32 (wordsOf V))[j]? = some v → w8.cell? ((⟨w1.heap.size, 0, none⟩ : Addr).add j) = some v from row_cells (A := []) hr8 rfl)
      have hd10 := hd8.grown hg11 (by simp)
      have hg12 := grownBy_trans hg10 hg11
      clear hw8 hr7 hg10 hd8
      go_wp2_with (refine wp_loadAgg rfl 90 (.tmp 37) rfl Try.underlying90 rfl ⟨w1.heap.size, 0, none⟩ rfl (c32 (wordsOf V)) (by kernel_rfl) hw9.out ?_)
      have hgd : w.heap.size < w7.heap.size := by omega
      have hz11 : w7.heap.size < w8.heap.size := hd9.lt
      clear hw9 hr8 HZ9 hg11
      go_loopw [39] (fun i wr => ∃ k : Nat, k ≤ 8 ∧ i = .int .i64 k ∧ Row wr w7.heap.size 27 (c8 (dMix V k)) ∧ Row wr w.heap.size 27 zd ∧ w.grownBy wr none) (fun i _ => 8 - (intOf i).toNat)
      case atStart => exact ⟨0, by omega, rfl, by rw [dMix_zero]; exact hd9, hd10, hg12⟩
      case round =>
        clear hd9 hd10 hg12 hz11
        rename World => w9
        obtain ⟨k, hk, rfl, hdd, hd0, hgg⟩ := hrel
        by_cases hlt : k < 8
        · obtain ⟨x, hx⟩ : ∃ x, x = (wordsOf V).getD k 0 := ⟨_, rfl⟩
          have hstep := dMix_step V k hlt
          have hidx := run_index_agg (P := Try.prog) w9 Try.underlying90 Try.underlying89 rfl (by kernel_rfl) (c32 (wordsOf V)) k hlt _ (c32_get (wordsOf V) k hlt)
          rw [← hx] at hidx hstep
          have HSTEP := Lib.hid hstep
          have HLEN := Lib.hid (dMix_length V k hk)
          clear hx hstep
          have b1 := n32_lo x
          have b2 := n32_hi x
          have q1 : (0 : Int) ≤ 4 * k := by omega
          have q2 : (4 : Int) * k ≤ 32 := by omega
          have q3 : ¬ (32 = 4 * k) := by omega
          go_wp2
          refine wp_region_mix [(0, true), (1, true), (2, true), (3, true), (4, true), (5, false), (6, false)] (by kernel_rfl) (by kernel_rfl) ?_
          iterate 5 (refine wpMix_step rfl (fun K hK => ?_); go_simp; (try go_bits); with_reducible refine hK _ ?_; clear hK K)
          refine wpMix_loud _ rfl rfl ?_
          go_wp2_with fail
          refine (put_octI _ _ x.toNat 4 _ rfl rfl (by omega) (by omega) (by have := x.toNat_lt; omega)).mono ?_
          rintro e w10 ⟨rfl, hb10, hg13⟩
          have hdd1 := hdd.drew.grown hg13 (by simp)
          have hd01 := hd0.drew.grown hg13 (by simp)
          have hgg1 := grownBy_trans (grownBy_drew hgg) hg13
          have hsrc := Lib.hid (row_all hb10)
          have hl4 := Lib.hid (show (c8 (beBytes x.toNat 4)).length = Nat.min 4 (32 - 4 * k) by rw [c8_length, beBytes_length]; show 4 = min 4 (32 - 4 * k); omega)
          have hfit := Lib.hid (show 4 * k + (c8 (beBytes x.toNat 4)).length ≤ (c8 (dMix V k)).length by rw [c8_length, c8_length, beBytes_length, HLEN.out]; omega)
          have hone4 := Lib.hid (show ∀ u ∈ c8 (beBytes x.toNat 4), u.oneCell' = true by intro u hu; simp only [c8, List.mem_map] at hu; obtain ⟨x, _, rfl⟩ := hu; rfl)
          clear hidx hdd hd0 hgg hb10
          go_wp2_with fail
          refine wpMix_next' (fun _ => trivial) ?_
          refine wpMix_loud _ rfl rfl ?_
          refine wp_copy rfl (.tmp 45) (.tmp 48) 23 23 rfl 5 Try.underlying23 (by kernel_rfl) _ _ _ _ _ _ rfl rfl w7.heap.size (4 * k) (c8 (dMix V k)) 27 hdd1 (c8 (beBytes x.toNat 4)) hl4.out (fun _ => ⟨rfl, _, rfl, hsrc.out⟩) hfit.out hone4.out ?_
          intro w11 hdd2 hg14
          rw [HSTEP.out] at hdd2
          have hd02 := hd01.grown hg14 (by simp; omega)
          have hgg2 := grownBy_in hgg1 hg14 (by omega)
          clear hdd1 hd01 hgg1 hsrc hl4 hfit hone4 hg13 hg14
          refine wpMix_end (fun _ => trivial) ?_
          go_wp2
          go_roundw
          case rel => exact ⟨k + 1, by omega, by go_num, hdd2, hd02, hgg2⟩
          case measure => simp [intOf]; omega
        · have hke : k = 8 := by omega
          rw [hke, dMix_full] at hdd
          clear hke
          have hsrc := Lib.hid (row_all hdd)
          have hlb := Lib.hid (show (Try.prog.info? 27).map (·.size) = some (c8 (bytesOf V)).length by rw [c8_length, bytesOf_length]; kernel_rfl)
          have hone := Lib.hid (show ∀ u ∈ c8 (bytesOf V), u.oneCell' = true by intro u hu; simp only [c8, List.mem_map] at hu; obtain ⟨x, _, rfl⟩ := hu; rfl)
          have hfit := Lib.hid (show 0 + (c8 (bytesOf V)).length ≤ zd.length by rw [c8_length, bytesOf_length]; decide)
          have hd0' := Lib.hid hd0
          clear hd0
          go_wp2_with (first | (refine wp_loadAgg rfl 27 (.tmp 5) rfl Try.underlying27 rfl ⟨w7.heap.size, 0, none⟩ rfl (c8 (bytesOf V)) hlb.out hsrc.out ?_) | (refine wp_storeAgg rfl 27 (.tmp 2) (.tmp 51) rfl w.heap.size 0 27 zd (c8 (bytesOf V)) rfl rfl hd0'.out hlb.out hfit.out hone.out ?_))
          intro w12 hdr hg15 hz15
          rw [splice_all (by rw [c8_length, bytesOf_length]; decide)] at hdr
          go_wp2
          have hlb' : (Try.prog.info? 27).map (·.size) = some (c8 (bytesOf V)).toArray.size := by rw [List.size_toArray]; exact hlb.out
          refine bodyPost_ret (v := .agg (c8 (bytesOf V)).toArray) (results_cell_row rfl _ _ w.heap.size _ _ _ _ rfl hdr Try.underlying27 rfl hlb') rfl ⟨?_, grownBy_in hgg hg15 (by omega)⟩
          rw [HV.out]; rfl
end Go.Proofs.Ytpohjldhbaalbaa
