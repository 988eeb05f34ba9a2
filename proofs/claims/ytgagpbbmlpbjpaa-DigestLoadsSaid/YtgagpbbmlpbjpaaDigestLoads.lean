/- The walk of the law DigestLoads. -/
import Derived.Test.YtgagpbbmlpbjpaaRLoad
import Derived.Test.YtgagpbbmlpbjpaaLoadLaw
import Derived.Test.YtgagpbbmlpbjpaaDigestSaves
namespace Go.Proofs.Ytgagpbbmlpbjpaa
open Go.RowKit

set_option maxRecDepth 100000 in
set_option maxHeartbeats 2000000 in
theorem loads_short (w : World) (A : Option Addr) (c : Nat) (b : List UInt8) (B : Option Addr) (d : Nat) (q : List UInt8)
    (hld : Hid (∀ W : World, w.grownBy W none → Calls Try.prog 35 #[.slice A b.length c] W fun e w' => e = .returned (.tuple #[.pointer none, .int .i64 9]) ∧ W.grownBy w' none))
    (hrl : Hid (∀ W : World, w.grownBy W none → Calls Try.prog 36 #[.slice A b.length c] W fun e w' => e = .returned (.tuple #[.agg zrs.toArray, .int .i64 9]) ∧ W.grownBy w' none)) :
    Calls Try.prog 10 #[.slice A b.length c, .slice B q.length d] w fun e w' => e = .returned (.bool true) ∧ w.grownBy w' none := by
  have hS0 := Own.start w
  go_enter Try.func10, Try.ntmps10
  go_wp2_with fail
  refine (hld.out _ hS0.grown).mono ?_
  rintro e w1 ⟨rfl, hg⟩
  have hS1 := hS0.call hg
  clear hg hS0
  go_wp2_with fail
  refine (hrl.out _ hS1.grown).mono ?_
  rintro e w2 ⟨rfl, hg⟩
  have hS2 := hS1.call hg
  clear hg hS1
  go_wp2_with (refine wp_alloc (o := ⟨some 7, _, _, _, _, _⟩) rfl 46 rfl _ alloc_rs ?_)
  intro w3 hr hg hz
  clear hz
  have hS3 := hS2.new hr hg
  clear hr hg hS2
  go_wp2_with (refine wp_storeAgg rfl 46 (.tmp 7) (.tmp 18) rfl w2.heap.size 0 46 zrs zrs rfl rfl (hS3.row 0 rfl) (by kernel_rfl) (by decide) zrs_one ?_)
  intro w4 hr hg hz
  clear hz
  rw [splice_all rfl] at hr
  have hS4 := hS3.setRow 0 rfl hr hg
  clear hr hg hS3
  go_wp2_with fail
  refine (awake_any _).mono ?_
  rintro e w5 ⟨rfl, hg⟩
  have hS5 := hS4.call hg
  clear hg hS4
  go_wp2
  go_ret
  exact ⟨rfl, hS5.grown⟩

set_option maxRecDepth 100000 in
set_option maxHeartbeats 2000000 in
theorem loads_form (w : World) (A : Option Addr) (c : Nat) (b : List UInt8) (B : Option Addr) (d : Nat) (q : List UInt8)
    (hld : Hid (∀ W : World, w.grownBy W none → Calls Try.prog 35 #[.slice A b.length c] W fun e w' => e = .returned (.tuple #[.pointer none, .int .i64 10]) ∧ W.grownBy w' none))
    (hrl : Hid (∀ W : World, w.grownBy W none → Calls Try.prog 36 #[.slice A b.length c] W fun e w' => e = .returned (.tuple #[.agg zrs.toArray, .int .i64 10]) ∧ W.grownBy w' none)) :
    Calls Try.prog 10 #[.slice A b.length c, .slice B q.length d] w fun e w' => e = .returned (.bool true) ∧ w.grownBy w' none := by
  have hS0 := Own.start w
  go_enter Try.func10, Try.ntmps10
  go_wp2_with fail
  refine (hld.out _ hS0.grown).mono ?_
  rintro e w1 ⟨rfl, hg⟩
  have hS1 := hS0.call hg
  clear hg hS0
  go_wp2_with fail
  refine (hrl.out _ hS1.grown).mono ?_
  rintro e w2 ⟨rfl, hg⟩
  have hS2 := hS1.call hg
  clear hg hS1
  go_wp2_with (refine wp_alloc (o := ⟨some 7, _, _, _, _, _⟩) rfl 46 rfl _ alloc_rs ?_)
  intro w3 hr hg hz
  clear hz
  have hS3 := hS2.new hr hg
  clear hr hg hS2
  go_wp2_with (refine wp_storeAgg rfl 46 (.tmp 7) (.tmp 18) rfl w2.heap.size 0 46 zrs zrs rfl rfl (hS3.row 0 rfl) (by kernel_rfl) (by decide) zrs_one ?_)
  intro w4 hr hg hz
  clear hz
  rw [splice_all rfl] at hr
  have hS4 := hS3.setRow 0 rfl hr hg
  clear hr hg hS3
  go_wp2_with fail
  refine (awake_any _).mono ?_
  rintro e w5 ⟨rfl, hg⟩
  have hS5 := hS4.call hg
  clear hg hS4
  go_wp2
  go_ret
  exact ⟨rfl, hS5.grown⟩


set_option maxRecDepth 100000 in
set_option maxHeartbeats 4000000 in
theorem loads_ok (w : World) (A : Option Addr) (c : Nat) (b : List UInt8) (hb : Bytes w A b) (hc : b.length ≤ c) (hr : c ≤ 140737488351232) (B : Option Addr) (d : Nat) (q : List UInt8) (hq : Bytes w B q) (hd : q.length ≤ d) (hd2 : d ≤ 140737488351232) (hok : LoadOk b) :
    Calls Try.prog 10 #[.slice A b.length c, .slice B q.length d] w fun e w' => e = .returned (.bool true) ∧ w.grownBy w' none := by
  have hld : ∀ W : World, Bytes W A b → Calls Try.prog 35 #[.slice A b.length c] W fun e w' => e = .returned (.tuple #[.pointer (some ⟨W.heap.size, 0, none⟩), .int .i64 0]) ∧ Has w' W.heap.size (loadS b) (nIn b) ∧ W.grownBy w' none := fun W hW =>
    (load_any c A b W hW hc (by omega) hok.1).mono fun e w' h => by
      rcases h with ⟨_, h1, h2, h3⟩ | ⟨h, _⟩
      · exact ⟨h1, h2, h3⟩
      · exact absurd hok h
  have hrl : ∀ W : World, Bytes W A b → Calls Try.prog 36 #[.slice A b.length c] W fun e w' => ∃ (A' : Option Addr) (c' : Nat), e = .returned (.tuple #[.agg (rsCells (loadS b).1 (nIn b) (.slice A' (loadS b).2.length c')).toArray, .int .i64 0]) ∧
      w'.ownsRow W.heap.size 5 1 (.slice A' (loadS b).2.length c') (loadS b).2.length (c8 (loadS b).2) ∧ W.grownBy w' none := fun W hW =>
    (rload_any c A b W hW hc (by omega) hok.1).mono fun e w' h => by
      rcases h with ⟨_, A', c', h1, h2, h3⟩ | ⟨h, _⟩
      · exact ⟨A', c', h1, h2, h3⟩
      · exact absurd hok h
  have hsl := save_load b hok
  have hn := hok.2.1
  have htl : (loadS b).2.length = nIn b % 64 := by have := hok.2.2; simp [loadS]; omega
  obtain ⟨s, hs⟩ : ∃ s, s = loadS b := ⟨_, rfl⟩
  obtain ⟨n, hnn⟩ : ∃ n, n = nIn b := ⟨_, rfl⟩
  simp only [← hs, ← hnn] at hld hrl
  rw [← hs, ← hnn] at hsl htl
  rw [← hnn] at hn
  have HLD := Lib.hid hld
  have HRL := Lib.hid hrl
  have HSL := Lib.hid hsl
  have HTL := Lib.hid htl
  have hlt : s.2.length < 64 := by omega
  have HB := Lib.hid hb
  have HQ := Lib.hid hq
  clear hld hrl hsl hs hnn hok htl hb hq
  have hS0 := Own.start w
  go_enter Try.func10, Try.ntmps10
  go_wp2_with fail
  refine (HLD.out _ HB.out).mono ?_
  rintro e w1 ⟨rfl, hh, hg⟩
  have hS1 := hS0.newE hg (hasE_good w.heap.size s n) hh (fun k hk => by cases hk; exact Nat.le_refl _)
  clear hh hg hS0 HLD
  go_wp2_with fail
  refine (HRL.out _ (HB.out.keep hS1.grown)).mono ?_
  rintro e w2 ⟨A', c', rfl, ho, hg⟩
  have hA' : A' = none → c' = 0 := fun h => by
    subst h
    rcases ho.2 with ⟨hv, _⟩ | ⟨g', cp, cu, hv, _⟩
    · injection hv
    · injection hv with h1; cases h1
  have HA' := Lib.hid hA'
  have hS2 := hS1.made ho hg
  clear ho hg hS1 HRL hA'
  go_wp2_with (refine wp_alloc (o := ⟨some 7, _, _, _, _, _⟩) rfl 46 rfl _ alloc_rs ?_)
  intro w3 hr hg hz
  clear hz
  have hS3 := hS2.new hr hg
  clear hr hg hS2
  go_wp2_with (refine wp_storeAgg rfl 46 (.tmp 7) (.tmp 18) rfl w2.heap.size 0 46 zrs (rsCells s.1 n (.slice A' s.2.length c')) rfl rfl (hS3.row 0 rfl) (rs_info _ _ _) (by simp [rsCells, wordsOf, zrs]) (rs_one _ _ _ _ _) ?_)
  intro w4 hr hg hz
  clear hz
  rw [splice_all (by simp [rsCells, wordsOf, zrs])] at hr
  have hS4 : Own w w4 [rowE w2.heap.size 46 (rsCells s.1 n (.slice A' s.2.length c')), ownsE w1.heap.size 5 1 (.slice A' s.2.length c') s.2.length (c8 s.2), hasE w.heap.size s n] := hS3.setRow 0 rfl hr hg
  clear hr hg hS3
  go_wp2_with fail
  refine (awake_any _).mono ?_
  rintro e w5 ⟨rfl, hg⟩
  have hS5 := hS4.call hg
  clear hg hS4
  by_cases hlim : 2305843009213693951 < n + q.length
  · have t1 : (2305843009213693951 : Int) - (n : Int) < (q.length : Int) := by omega
    go_wp2_with fail
    refine (swrite_limit w.heap.size n d B q.length s _ (by omega) (hS5.has 2 rfl) hn hlim).mono ?_
    rintro e w6 ⟨rfl, rfl⟩
    have c8' : w5.cell? ⟨w2.heap.size, 8, none⟩ = some (.int .u64 (n : Int)) := (hS5.row 0 rfl).cell 8
    go_wp2_with fail
    refine (save_any w.heap.size n s _ (hS5.has 2 rfl) hn).mono ?_
    rintro e w7 ⟨vs, rfl, ho, hg⟩
    have hS6 := hS5.call hg
    have ho' := own_n ho (saveOf_length s n).symm
    rw [HSL.out] at ho'
    obtain ⟨As, cs, rfl, _⟩ := own_bytes ho'
    have hsame := same_any cs c As A b b w7 (own_slice_bytes ho') (HB.out.keep hS6.grown) (by omega) (by omega)
    simp only [decide_true] at hsame
    have hlb : 40 + s.2.length = b.length := by have := saveOf_length s n; rw [HSL.out] at this; omega
    have HSM := Lib.hid hsame
    clear ho ho' hg hS5 hsame c8' hlb
    go_wp2_with fail
    refine HSM.out.mono ?_
    rintro e w8 ⟨rfl, hg⟩
    have hS7 := hS6.call hg
    go_wp2
    go_ret
    exact ⟨rfl, hS7.grown⟩
  · have t1 : (q.length : Int) ≤ (2305843009213693951 : Int) - (n : Int) := by omega
    have hwr := swrite_ok w.heap.size n d B q s w5 (HQ.out.off hS5.grown (Nat.le_refl _)) hd (by omega) (hS5.has 2 rfl) (by omega)
    have hrw := fun W (hW1 : Bytes W A' s.2) (hW2 : Bytes W B q) => rwrite_own n c' d A' B s.1 s.2 q W hW1 hlt hW2 (by omega) (by omega)
    rw [show ((s.1, s.2) : V8 × List UInt8) = s from rfl] at hrw
    have hf1 := feed_tail_lt s q hlt
    have hf2 := feed_tail_len s q hlt
    obtain ⟨s2, hs2⟩ : ∃ s2, s2 = feed s q := ⟨_, rfl⟩
    obtain ⟨N2, hN2⟩ : ∃ N2, N2 = n + q.length := ⟨_, rfl⟩
    rw [← hs2, ← hN2] at hwr
    simp only [← hs2, ← hN2] at hrw
    rw [← hs2] at hf1 hf2
    have hNb : N2 ≤ 2305843009213693951 := by omega
    have HF2 := Lib.hid (show s2.2.length = N2 % 64 by rw [hf2, HTL.out, hN2]; omega)
    have HWR := Lib.hid hwr
    have HRW := Lib.hid hrw
    clear hwr hrw hf2 hs2 hN2 hlim
    go_wp2_with fail
    refine HWR.out.mono ?_
    rintro e w6 ⟨rfl, hg, hh⟩
    have hS6 := hS5.write 2 rfl (hasE_good w.heap.size s2 N2) hh hg (.inl rfl)
    have c8' : w6.cell? ⟨w2.heap.size, 8, none⟩ = some (.int .u64 (n : Int)) := (hS6.row 0 rfl).cell 8
    clear hg hh hS5 HWR
    go_wp2_with (refine wp_load rfl 46 (.tmp 7) rfl Try.underlying46 rfl ⟨w2.heap.size, 0, none⟩ rfl (rsCells s.1 n (.slice A' s.2.length c')) (rs_info _ _ _) (row_all (hS6.row 0 rfl)) ?_)
    refine (HRW.out _ (own_slice_bytes (hS6.owns 1 rfl)) (HQ.out.keep hS6.grown)).mono ?_
    rintro e w7 ⟨A7, c7, rfl, ho, hg⟩
    have hA7 : A7 = none → c7 = 0 := fun h => by
      subst h
      rcases ho.2 with ⟨hv, _⟩ | ⟨g', cp, cu, hv, _⟩
      · injection hv
      · injection hv with h1; cases h1
    have HA7 := Lib.hid hA7
    have hS7 := hS6.made ho hg
    clear ho hg hS6 HRW hA7 c8'
    go_wp2_with (refine wp_storeAgg rfl 46 (.tmp 7) (.tmp 56) rfl w2.heap.size 0 46 (rsCells s.1 n (.slice A' s.2.length c')) (rsCells s2.1 N2 (.slice A7 s2.2.length c7)) rfl rfl (hS7.row 1 rfl) (rs_info _ _ _) (rs_fit _ _ _ _ _ _) (rs_one _ _ _ _ _) ?_)
    intro w8 hr hg hz
    clear hz
    rw [splice_all (by simp [rsCells, wordsOf])] at hr
    have hS8 : Own w w8 [ownsE w6.heap.size 5 1 (.slice A7 s2.2.length c7) s2.2.length (c8 s2.2), rowE w2.heap.size 46 (rsCells s2.1 N2 (.slice A7 s2.2.length c7)), ownsE w1.heap.size 5 1 (.slice A' s.2.length c') s.2.length (c8 s.2), hasE w.heap.size s2 N2] := hS7.setRow 1 rfl hr hg
    clear hr hg hS7
    have HCL := Lib.hid (rclose_any N2 c7 A7 s2.1 s2.2)
    have HSV := Lib.hid (rsave_any N2 c7 A7 s2.1 s2.2)
    go_wp2_with fail
    have hS9 := hS8.drew
    clear hS8
    refine wp_region_mixC (fun W => Own w W _) (fun _ => true) [(0, true), (1, true), (2, true), (3, true), (5, true), (6, true), (7, true), (4, false), (8, true), (9, true), (10, true), (11, true), (13, true), (12, false), (14, false), (15, true), (16, true), (17, true), (18, true), (20, true), (19, false), (21, false), (22, false), (23, true), (24, false)] (by kernel_rfl) (by kernel_rfl) hS9 ?_
    iterate 5 (refine wpMix_step rfl (fun K hK => ?_); go_simp; (try go_bits); with_reducible refine hK _ ?_; clear hK K)
    refine wpMix_pureW (.int .u64 (N2 : Int)) rfl rfl (fun W hW => run_load1_op 44 (.tmp 62) rfl Try.underlying44 rfl ⟨w2.heap.size, 8, none⟩ rfl _ ((hW.row 1 rfl).cell 8)) ?_
    iterate 1 (refine wpMix_step rfl (fun K hK => ?_); go_simp; (try go_bits); with_reducible refine hK _ ?_; clear hK K)
    refine wpMix_loudW _ rfl rfl ?_
    go_wp2_with fail
    refine (size_any w.heap.size N2 s2 _ (hS9.has 3 rfl) hNb).mono ?_
    rintro e w9 ⟨rfl, rfl⟩
    go_wp2_with fail
    refine wpMix_next' (fun _ => hS9) ?_
    iterate 4 (refine wpMix_step rfl (fun K hK => ?_); go_simp; (try go_bits); with_reducible refine hK _ ?_; clear hK K)
    refine wpMix_pureW (.agg (rsCells s2.1 N2 (.slice A7 s2.2.length c7)).toArray) rfl rfl (fun W hW => run_load_op 46 (.tmp 7) rfl Try.underlying46 rfl ⟨w2.heap.size, 0, none⟩ rfl _ (rs_info _ _ _) (row_all (hW.row 1 rfl))) ?_
    refine wpMix_loudW _ rfl rfl ?_
    go_wp2_with fail
    refine (stsum_any w.heap.size N2 s2 _ (hS9.has 3 rfl) hNb).mono ?_
    rintro e wA ⟨rfl, hg⟩
    have hSA := hS9.call hg
    clear hg hS9
    go_wp2_with fail
    refine wpMix_next' (fun _ => hSA) ?_
    refine wpMix_loudW _ rfl rfl ?_
    go_wp2_with fail
    refine (HCL.out _ (own_slice_bytes (hSA.owns 0 rfl)) hf1 hNb HF2.out).mono ?_
    rintro e wB ⟨rfl, hg⟩
    have hSB := hSA.call hg
    clear hg hSA
    go_wp2_with fail
    refine wpMix_next' (fun _ => hSB) ?_
    have heq := fun W => eq_dig W (closeOf s2 N2) (closeOf s2 N2) (bytesOf_length _) (bytesOf_length _)
    simp only [decide_true] at heq
    iterate 4 (refine wpMix_step rfl (fun K hK => ?_); go_simp; (try go_bits); with_reducible refine hK _ ?_; clear hK K)
    refine wpMix_pureW (.agg (rsCells s2.1 N2 (.slice A7 s2.2.length c7)).toArray) rfl rfl (fun W hW => run_load_op 46 (.tmp 7) rfl Try.underlying46 rfl ⟨w2.heap.size, 0, none⟩ rfl _ (rs_info _ _ _) (row_all (hW.row 1 rfl))) ?_
    clear heq HCL
    refine wpMix_loudW _ rfl rfl ?_
    go_wp2_with fail
    refine (save_any w.heap.size N2 s2 _ (hSB.has 3 rfl) hNb).mono ?_
    rintro e wC ⟨vs, rfl, ho1, hg⟩
    have hSC := hSB.call hg
    have ho1' := own_n ho1 (saveOf_length s2 N2).symm
    have hb1 := own_src_bytes ho1'
    obtain ⟨As, cs, rfl, _⟩ := own_bytes ho1'
    have HB1 := Lib.hid (hb1 _ _ rfl)
    clear ho1 ho1' hb1 hg hSB
    go_wp2_with fail
    refine wpMix_next' (fun _ => hSC) ?_
    refine wpMix_loudW _ rfl rfl ?_
    go_wp2_with fail
    refine (HSV.out _ (own_slice_bytes (hSC.owns 0 rfl)) HA7.out hf1 hNb).mono ?_
    rintro e wD ⟨vr, rfl, ho2, hg⟩
    have hSD := hSC.call hg
    have hb1' := Lib.hid (HB1.out.keep hg)
    have ho2' := own_n ho2 (saveOf_length s2 N2).symm
    have hb2 := own_src_bytes ho2'
    obtain ⟨Ar, cr, rfl, _⟩ := own_bytes ho2'
    have HB2 := Lib.hid (hb2 _ _ rfl)
    clear ho2 ho2' hb2 hg hSC HB1 HSV
    go_wp2_with fail
    refine wpMix_next' (fun _ => hSD) ?_
    have hsame := same_any cs cr As Ar (saveOf s2 N2) (saveOf s2 N2) wD hb1'.out HB2.out (by rw [saveOf_length]; omega) (by rw [saveOf_length]; omega)
    simp only [decide_true] at hsame
    refine wpMix_loudW _ rfl rfl ?_
    go_wp2_with fail
    refine hsame.mono ?_
    rintro e wE ⟨rfl, hg⟩
    have hSE := hSD.call hg
    clear hg hSD hsame hb1' HB2
    go_wp2_with fail
    refine wpMix_next' (fun _ => hSE) ?_
    iterate 1 (refine wpMix_step rfl (fun K hK => ?_); go_simp; (try go_bits); with_reducible refine hK _ ?_; clear hK K)
    refine wpMix_loudW _ rfl rfl ?_
    go_wp2_with fail
    refine wpMix_next' (fun _ => hSE) ?_
    unfold wpMix
    go_wp2
    go_ret
    exact ⟨rfl, hSE.grown⟩
theorem walk_DigestLoads (w : World) (A : Option Addr) (c : Nat) (b : List UInt8) (hb : Bytes w A b) (hc : b.length ≤ c) (hr : c ≤ 140737488351232) (B : Option Addr) (d : Nat) (q : List UInt8) (hq : Bytes w B q) (hd : q.length ≤ d) (hd2 : d ≤ 140737488351232) :
    Calls Try.prog 10 #[.slice A b.length c, .slice B q.length d] w fun e w' => e = .returned (.bool true) ∧ w.grownBy w' none := by
  by_cases h40 : b.length < 40
  · refine loads_short w A c b B d q (Lib.hid fun W hW => ?_) (Lib.hid fun W hW => rload_short c A b.length W h40)
    exact (load_short c A b.length W h40).mono fun e w' ⟨h1, h2⟩ => ⟨h1, h2 ▸ grownBy_refl _ _⟩
  · by_cases hok : LoadOk b
    · exact loads_ok w A c b hb hc hr B d q hq hd hd2 hok
    · refine loads_form w A c b B d q (Lib.hid fun W hW => ?_) (Lib.hid fun W hW => ?_)
      · refine (load_any c A b W (hb.keep hW) hc (by omega) (by omega)).mono fun e w' h => ?_
        rcases h with ⟨h, _⟩ | ⟨_, h1, h2⟩
        · exact absurd h hok
        · exact ⟨h1, h2⟩
      · refine (rload_any c A b W (hb.keep hW) hc (by omega) (by omega)).mono fun e w' h => ?_
        rcases h with ⟨h, _⟩ | ⟨_, h1, h2⟩
        · exact absurd h hok
        · exact ⟨h1, h2⟩
end Go.Proofs.Ytgagpbbmlpbjpaa
