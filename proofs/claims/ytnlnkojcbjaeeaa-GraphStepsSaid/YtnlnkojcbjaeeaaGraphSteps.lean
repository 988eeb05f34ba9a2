/- The statement GraphSteps' walk. -/
import Derived.Test.YtnlnkojcbjaeeaaSeed18
import Derived.Test.YtnlnkojcbjaeeaaOpenE18
import Derived.Test.YtnlnkojcbjaeeaaOpenN
import Derived.Test.YtnlnkojcbjaeeaaWf
namespace Go.Proofs.Ytnlnkojcbjaeeaa
set_option linter.unusedVariables false
set_option linter.unusedSimpArgs false
set_option linter.unusedSectionVars false
open Go.RowKit
set_option linter.unusedVariables false
set_option maxRecDepth 100000 in
set_option maxHeartbeats 8000000 in
theorem walk_GraphSteps (w : World) (A : Option Addr) (n c : Nat) (E : List (List UInt8)) (hn : E.length = n) (hE : RowsB w A E) (hc : n ≤ c) (A1 : Option Addr) (c1 : Nat) (roots : List UInt8) (hr : Bytes w A1 roots) (hc1 : roots.length ≤ c1) (hr1 : c1 ≤ 140737488351232) (hnil : A1 = none → c1 = 0)
    (A2 : Option Addr) (c2 : Nat) (zs : List Int) (hz : Ints .i64 w A2 zs) (hwz : ∀ z ∈ zs, (Lit.int .i64 z).wf = true) (hc2 : zs.length ≤ c2) (hr2 : c2 * 8 ≤ 140737488351232) :
    Calls Try.prog 4 #[.slice A n c, .slice A1 roots.length c1, .slice A2 zs.length c2] w fun e w' => e = .returned (.bool true) ∧ w.grownBy w' none := by
  subst hn
  obtain ⟨m, hmn, hk1, hk2, hk3, hk4, hme, hm9⟩ := min_facts E.length 9 9 rfl
  obtain ⟨m2, gmn, gk1, gk2, gk3, gk4, gme, gm30⟩ := min_facts zs.length 30 30 rfl
  have hsl := fun W => run_to8 (P := Try.prog) (t := 22) (e := 23) Try.underlying22 (by kernel_rfl) A E.length c m (by omega) W
  have gsl := fun W => run_to8 (P := Try.prog) (t := 42) (e := 3) Try.underlying42 (by kernel_rfl) A2 zs.length c2 m2 (by omega) W
  have HGME := Lib.hid gme
  have HE := Lib.hid hE
  have HME := Lib.hid hme
  have HR := Lib.hid hr
  have HC1 := Lib.hid hc1
  have HR1 := Lib.hid hr1
  have HN1 := Lib.hid hnil
  have HZ := Lib.hid hz
  have HWZ := Lib.hid hwz
  have HC2 := Lib.hid hc2
  have HR2 := Lib.hid hr2
  clear hE hme hr hc1 hr1 hnil hz hwz hc2 hr2 hc gme
  go_enter Try.func4, Try.ntmps4
  go_wp2_with fail
  refine (newG_any w).mono ?_
  rintro e w1 ⟨G, M, rfl, hS⟩
  go_wp2
  go_loopw [27] (fun i wr => ∃ (k : Nat) (kv : KV) (L : List Ent), i = .int .i64 (k : Int) ∧ k ≤ m ∧ EdgesIn L kv (seedK E k) ∧ Own w wr (gE G M :: mapE M kv :: L)) (fun i _ => m - (intOf i).toNat)
  case atStart => exact ⟨0, [], [], rfl, by omega, .nil, hS⟩
  case round =>
    clear hS
    obtain ⟨k, kv, L, rfl, hk, he, hS⟩ := hrel
    by_cases hlt : k < m
    · have q1 : (k : Int) < (m : Int) := by omega
      have q2 : (k : Int) < 9 := by omega
      obtain ⟨b, off, B, cB, rfl, hcell, hB, hcb, hcb2, hnb⟩ := HE.out k (by have := HME.out; omega)
      obtain ⟨l, hl⟩ : ∃ l, l = E.getD k [] := ⟨_, rfl⟩
      rw [← hl] at hcell hB hcb
      have hcell' := hS.cell hcell
      have HKN := Lib.hid (node_of k (by omega))
      have HB := Lib.hid hB
      have HCB := Lib.hid hcb
      have HCB2 := Lib.hid hcb2
      have HNB := Lib.hid hnb
      have HS' := Lib.hid (show seedK E (k + 1) = putN (seedK E k) (nodeL (UInt8.ofNat k)) (nodesL l) by rw [hl]; rfl)
      obtain ⟨d, hd⟩ : ∃ d, d = nodeL (UInt8.ofNat k) := ⟨_, rfl⟩
      rw [← hd] at HKN HS'
      have HD := Lib.hid (show d.length = 32 by rw [hd]; exact nodeL_len _)
      obtain ⟨to, hto⟩ : ∃ to, to = nodesL l := ⟨_, rfl⟩
      have HTO := Lib.hid hto
      have HTL := Lib.hid (show to.length ≤ 4096 by rw [hto]; exact Nat.le_trans (nodesL_len l) (by omega))
      rw [← hto] at HS'
      clear hcell hl hB hcb hcb2 hnb hd hto
      go_wp2_with fail
      refine (HKN.out _).mono ?_
      rintro e w2 ⟨rfl, hg⟩
      have hS2 := hS.call hg
      have hcell2 := hg.cell hcell' (by simp)
      clear hg hS hcell'
      go_wp2_with fail
      refine (nodes_any B cB l _ (HB.out.keep hS2.grown) HCB.out HCB2.out HNB.out).mono ?_
      rintro e w3 ⟨v3, rfl, ho, hg⟩
      rw [← HTO.out] at ho
      have hS3 := (hS2.madeR ho hg).sink2
      obtain ⟨A3, c3, rfl, hrows, -⟩ := ownsR_open ho
      clear hg hS2 ho hcell2
      go_wp2_with fail
      refine (put_st w _ G M kv (seedK E k) _ d A3 c3 to.length to hS3 he.more HD.out rfl hrows HTL.out).mono ?_
      rintro e w4 ⟨rfl, kv4, v4, he4, hS4⟩
      rw [← HS'.out] at he4
      have HE4 := Lib.hid he4
      clear hS3 hrows he he4
      go_wp2
      go_roundw
      case rel => exact ⟨k + 1, kv4, _, by go_num, by omega, HE4.out, hS4⟩
      case measure => simp [intOf]; omega
    · obtain rfl : k = m := by omega
      have q1 : ¬ ((k : Int) < (k : Int)) := by omega
      have hseed := seed_low E k
      have hseedl := seed_len E k
      obtain ⟨ns, hns⟩ : ∃ ns, ns = seedK E k := ⟨_, rfl⟩
      rw [← hns] at hseed hseedl he
      have HLOW := Lib.hid hseed
      have HLEN := Lib.hid (show ns.length ≤ 9 by omega)
      have HED := Lib.hid he
      obtain ⟨rt, hrt⟩ : ∃ rt, rt = nodesL roots := ⟨_, rfl⟩
      have HRT := Lib.hid hrt
      have HRTL := Lib.hid (show rt.length ≤ 12 by rw [hrt]; exact nodesL_len _)
      clear hseed hseedl hns he hrt hlt
      have kn := fun (W : World) (hg : w.grownBy W none) => nodes_any A1 c1 roots W (HR.out.keep hg) HC1.out (by have := HR1.out; omega) HN1.out
      rw [← HRT.out] at kn
      have HKN := Lib.hid kn
      clear kn hsl hk1 hk2 hk3 hk4 hmn
      go_wp2_with fail
      refine (HKN.out _ hS.grown).mono ?_
      rintro e w2 ⟨v2, rfl, ho, hg⟩
      have hS2 := (hS.madeR ho hg).sink2
      obtain ⟨A3, c3, rfl, hrows, -⟩ := ownsR_open ho
      clear hg hS ho
      go_wp2_with fail
      refine (mark_any w2 G A3 c3 rt hrows (by have := HRTL.out; omega)).mono ?_
      rintro e w3 ⟨K, B, v3, rfl, hT⟩
      have hS3 := (hS2.join hT).lowerQ 2 rfl
      simp only [List.cons_append, List.nil_append, List.set_cons_zero, List.set_cons_succ] at hS3
      obtain ⟨L3, hS3', hED3⟩ : ∃ L3, Own w w3 (mkL K G M B w.heap.size v3 [] rt kv L3) ∧ EdgesIn L3 kv ns := ⟨_, hS3, HED.out.more⟩
      have HED3 := Lib.hid hED3
      clear hT hS2 hrows hS3 hED3
      go_wp2_with fail
      refine (awake_any _).mono ?_
      rintro e w4 ⟨rfl, hg⟩
      have hS4 := hS3'.call hg
      clear hg hS3'
      go_wp2
      have hp0 := pot_le HLOW.out rt []
      have HP0 := Lib.hid (show pot ns (rt, []) ≤ 120 by have := HRTL.out; have := HLEN.out; omega)
      clear hp0 gsl gk1 gk2 gk3 gk4 gmn
      go_loopw [56] (fun i wr => ∃ (j s : Nat) (v : Value) (blk : KV) (gray : List Dg), i = .int .i64 (j : Int) ∧ j ≤ m2 ∧ Units blk ∧ (gray, keysOf blk) = stepM ns s (rt, []) ∧ Own w wr (mkL K G M B w.heap.size v blk gray kv L3)) (fun i _ => m2 - (intOf i).toNat)
      case atStart => exact ⟨0, 0, v3, [], rt, rfl, by omega, (by intro p hp; cases hp), rfl, hS4⟩
      case round =>
        clear hS4
        obtain ⟨j, s, v, blk, gray, rfl, hj, hU, hst, hS⟩ := hrel
        by_cases hlt : j < m2
        · have q1 : (j : Int) < (m2 : Int) := by omega
          have q2 : (j : Int) < 30 := by omega
          obtain ⟨b2, off2, rfl, _, hcz⟩ := HZ.out (by have := HGME.out; omega)
          have hcell := hS.cell (hcz j (by have := HGME.out; omega))
          have hwf := of_i64 (HWZ.out (zs.getD j 0) (by have h1 : j < zs.length := by { have := HGME.out; omega }; rw [List.getD_eq_getElem?_getD, List.getElem?_eq_getElem h1]; exact List.getElem_mem h1))
          obtain ⟨z, hz⟩ : ∃ z, z = zs.getD j 0 := ⟨_, rfl⟩
          rw [← hz] at hcell hwf
          have HW := Lib.hid hwf
          have HU := Lib.hid hU
          have HST := Lib.hid hst
          clear hcz hz hwf hU hst
          go_wp2_with fail
          refine (left_any w _ K G B v gray _ w.heap.size hS.swap12).mono ?_
          rintro e w5 ⟨rfl, hg⟩
          have hS5 := hS.call hg
          clear hg hS
          have hpp := pot_step ns s (rt, [])
          rw [← HST.out] at hpp
          have k2 := step_any w w5 K G M B w.heap.size v blk gray kv ns L3 z (Nat.le_refl _) (by have := HW.out; omega) HU.out HED3.out HLOW.out.wide (by have := HP0.out; omega) hS5
          obtain ⟨res, hres⟩ : ∃ res, res = stepM ns z.toNat (gray, keysOf blk) := ⟨_, rfl⟩
          rw [← hres] at k2
          have HRES := Lib.hid (show res = stepM ns (s + z.toNat) (rt, []) by rw [hres, HST.out, stepM_add])
          have HZ0 := Lib.hid (show z < 1 → res = (gray, keysOf blk) from fun hz => by rw [hres, show z.toNat = 0 by omega]; rfl)
          clear hpp hres
          go_wp2_with fail
          refine k2.mono ?_
          rintro e w6 ⟨v6, blk6, rfl, hU6, hk6, hS6⟩
          have HU6 := Lib.hid hU6
          have HK6 := Lib.hid hk6
          clear k2 hU6 hk6 hS5
          go_wp2_with fail
          refine (left_any w _ K G B v6 res.1 _ w.heap.size hS6.swap12).mono ?_
          rintro e w7 ⟨rfl, hg⟩
          have hS7 := hS6.call hg
          clear hg hS6
          have t1 : ((res.1.length : Int) == 0) = decide (res.1 = []) := by rw [Bool.eq_iff_iff]; simp
          have t2 : (decide (res.1 = []) != decide (res.1 = [])) = false := by simp
          by_cases hz1 : z < 1
          · have t3 : decide (z < 1) = true := by simpa using hz1
            have t4 : gray.length = res.1.length := by rw [HZ0.out hz1]
            rw [t4]
            have HT4 := Lib.hid t4
            clear t4
            go_wp2_with fail
            refine (left_any w _ K G B v6 res.1 _ w.heap.size hS7.swap12).mono ?_
            rintro e w8 ⟨rfl, hg⟩
            have hS8 := hS7.call hg
            clear hg hS7
            go_wp2_with fail
            go_roundw
            case rel => exact ⟨j + 1, s + z.toNat, v6, blk6, res.1, by go_num, by omega, HU6.out, by rw [HK6.out, ← HRES.out], hS8⟩
            case measure => simp [intOf]; omega
          · have t3 : decide (z < 1) = false := by simpa using hz1
            go_wp2_with fail
            go_roundw
            case rel => exact ⟨j + 1, s + z.toNat, v6, blk6, res.1, by go_num, by omega, HU6.out, by rw [HK6.out, ← HRES.out], hS7⟩
            case measure => simp [intOf]; omega
        · obtain rfl : j = m2 := by omega
          have q1 : ¬ ((j : Int) < (j : Int)) := by omega
          have hpp := pot_step ns s (rt, [])
          rw [← hst] at hpp
          have HPP := Lib.hid (show pot ns (gray, keysOf blk) ≤ 120 by have := HP0.out; omega)
          have HU := Lib.hid hU
          have HST := Lib.hid hst
          have HS := Lib.hid hS
          clear hpp hU hst hS hlt
          go_wp2_with fail
          go_loopw [14] (fun i wr => ∃ (k s : Nat) (v : Value) (blk : KV) (gray : List Dg), i = .int .i64 (k : Int) ∧ pot ns (gray, keysOf blk) + k ≤ 120 ∧ Units blk ∧ (gray, keysOf blk) = stepM ns s (rt, []) ∧ Own w wr (mkL K G M B w.heap.size v blk gray kv L3)) (fun i _ => 1000 - (intOf i).toNat)
          case atStart => exact ⟨0, s, v, blk, gray, rfl, by have := HPP.out; omega, HU.out, HST.out, HS.out⟩
          case round =>
            clear HS HPP HU HST
            clear v blk gray s
            obtain ⟨t, s, v, blk, gray, rfl, hpt, hU, hst, hS⟩ := hrel
            have q2 : (t : Int) < 1000 := by omega
            have q3 : 0 ≤ (t : Int) := by omega
            have k2 := step_any w wr K G M B w.heap.size v blk gray kv ns L3 (1 + (t : Int) % 3) (Nat.le_refl _) (by omega) hU HED3.out HLOW.out.wide (by omega) hS
            obtain ⟨z, hz⟩ : ∃ z : Nat, z = (1 + (t : Int) % 3).toNat := ⟨_, rfl⟩
            have hz0 : 0 < z := by omega
            rw [← hz] at k2
            obtain ⟨res, hres⟩ : ∃ res, res = stepM ns z (gray, keysOf blk) := ⟨_, rfl⟩
            rw [← hres] at k2
            have HRES := Lib.hid (show res = stepM ns (s + z) (rt, []) by rw [hres, hst, stepM_add])
            obtain ⟨tb, htb⟩ : ∃ tb, decide (res.1 = []) = tb := ⟨_, rfl⟩
            rw [htb] at k2
            have HTB := Lib.hid htb
            have HPL := Lib.hid (show res.1 ≠ [] → pot ns res + (t + 1) ≤ 120 from fun h => by
              have := pot_step_lt ns z (gray, keysOf blk) hz0 (by rw [← hres]; exact h)
              rw [← hres] at this
              omega)
            clear hz hz0 hres htb hU hst hS
            go_wp2_with fail
            refine k2.mono ?_
            rintro e w5 ⟨v5, blk5, rfl, hU5, hk5, hS5⟩
            have HU5 := Lib.hid hU5
            have HK5 := Lib.hid hk5
            clear k2 hU5 hk5
            cases tb with
            | false =>
              have hne : res.1 ≠ [] := of_decide_eq_false HTB.out
              have HPN := Lib.hid (HPL.out hne)
              clear hne
              go_wp2_with fail
              go_roundw
              case rel => exact ⟨t + 1, s + z, v5, blk5, res.1, by go_num, by rw [HK5.out]; exact HPN.out, HU5.out, by rw [HK5.out, ← HRES.out], hS5⟩
              case measure => simp [intOf]; omega
            | true =>
              have h0 : res.1 = [] := of_decide_eq_true HTB.out
              have hfin : keysOf blk5 = reachB ns rt := by
                rw [HK5.out, HRES.out]
                unfold reachB
                rw [stepM_end ns (rt, []) _ (by rw [← HRES.out]; exact h0)]
              have HFIN := Lib.hid hfin
              rw [h0] at hS5
              clear h0 hfin
              have hS5' := hS5.toG
              have hED5 := ((HED3.out.more (x := qE w.heap.size v5 [])).more (x := mapE B blk5)).more (x := kE K G v5 B)
              have HFREE := Lib.hid hED5
              clear hS5 hED5
              go_wp2_with fail
              refine (HKN.out _ hS5'.grown).mono ?_
              rintro e w6 ⟨v6, rfl, ho, hg⟩
              have hS6 := (hS5'.madeR ho hg).sink2
              obtain ⟨A6, c6, rfl, hrows, -⟩ := ownsR_open ho
              clear hg hS5' ho
              go_wp2_with fail
              refine (reach_any w _ G M kv ns _ A6 c6 rt hS6 HFREE.out.more HLOW.out.wide (by have := HLEN.out; omega) hrows (by have := HRTL.out; omega) (by have := HP0.out; omega)).mono ?_
              rintro e w7 ⟨v7, R, rfl, hpR, hri, hS7⟩
              have hmemR : ∀ x, x ∈ R ↔ x ∈ keysOf blk5 := fun x => by rw [HFIN.out]; exact hpR.mem_iff
              have HMR := Lib.hid hmemR
              obtain ⟨AR, cR, rfl, -, -⟩ := ownsR_open (hS7.rows 0 rfl)
              have hRlen : R.length ≤ 9 := Nat.le_trans (reach_len hpR hri) HLEN.out
              have HRL := Lib.hid hRlen
              clear hrows hS6 hpR hri hmemR hRlen
              have hS8 := hS7.rot43
              clear hS7
              obtain ⟨L8, hS8', hAll⟩ : ∃ L8, Own w w7 (kE K G v5 B :: qE w.heap.size v5 [] :: mapE B blk5 :: rowsE w.heap.size 30 (.slice AR R.length cR) R :: L8) ∧ True := ⟨_, hS8, trivial⟩
              clear hS8 hAll
              go_wp2_with fail
              go_loopw [96] (fun i wr => ∃ (k : Nat), i = .int .u8 (k : Int) ∧ k ≤ 18 ∧ Own w wr (kE K G v5 B :: qE w.heap.size v5 [] :: mapE B blk5 :: rowsE w.heap.size 30 (.slice AR R.length cR) R :: L8)) (fun i _ => 18 - (intOf i).toNat)
              case atStart => exact ⟨0, rfl, by omega, hS8'⟩
              case round =>
                clear hS8'
                obtain ⟨k, rfl, hk, hS⟩ := hrel
                by_cases hlt : k < 18
                · have q1 : (k : Int) < 18 := by omega
                  obtain ⟨nd, hnd⟩ : ∃ nd, nd = nodeL (UInt8.ofNat k) := ⟨_, rfl⟩
                  have hkn := node_of k (by omega)
                  rw [← hnd] at hkn
                  have HNOD := Lib.hid (show ∀ W, Calls Try.prog 10 #[.int .u8 (k : Int)] W fun e w' => e = .returned (.agg (c8 nd).toArray) ∧ W.grownBy w' none from hkn)
                  have HD := Lib.hid (show nd.length = 32 by rw [hnd]; exact nodeL_len _)
                  clear hkn hnd
                  go_wp2_with fail
                  go_loopw [17, 101] (fun b i wr => ∃ (j : Nat), b = .bool (decide (nd ∈ R.take j)) ∧ i = .int .i64 (j : Int) ∧ j ≤ R.length ∧ Own w wr (kE K G v5 B :: qE w.heap.size v5 [] :: mapE B blk5 :: rowsE w.heap.size 30 (.slice AR R.length cR) R :: L8)) (fun _ i _ => R.length - (intOf i).toNat)
                  case atStart => exact ⟨0, by simp, rfl, by omega, hS⟩
                  case round =>
                    clear hS
                    obtain ⟨j, rfl, rfl, hj, hS⟩ := hrel
                    by_cases hlj : j < R.length
                    · have q2 : (j : Int) < (R.length : Int) := by omega
                      have q3 : (j : Int) < 9 := by have := HRL.out; omega
                      obtain ⟨-, hrl, -⟩ := own_slice (hS.rows 3 rfl)
                      obtain ⟨b2, off2, rfl, hcell⟩ := hrl.at_ j hlj
                      have HX := Lib.hid (hrl.all.at_ j hlj)
                      have HMT := Lib.hid (mem_take_getD hlj nd)
                      obtain ⟨x, hx⟩ : ∃ x, x = R.getD j [] := ⟨_, rfl⟩
                      rw [← hx] at hcell HX HMT
                      have HC := Lib.hid hcell
                      obtain ⟨tb, htb⟩ : ∃ tb, tb = decide (nd ∈ R.take j) := ⟨_, rfl⟩
                      rw [← htb] at HMT
                      rw [← htb]
                      have heq : ∀ W : World, (Op.equalIn 10000 30 (.agg (c8 x).toArray) (.agg (c8 nd).toArray)).run Try.prog W = .ok (decide (x = nd)) W := fun W => eq_dg W x nd HX.out HD.out
                      obtain ⟨te, hte⟩ : ∃ te, te = decide (x = nd) := ⟨_, rfl⟩
                      rw [← hte] at heq HMT
                      clear hrl hcell hx htb hte
                      go_wp2_with (first | (refine wp_load rfl 30 (.tmp 103) rfl Try.underlying30 rfl ⟨b2, off2 + j * 32, none⟩ rfl (c8 x) (info_dg x HX.out) HC.out ?_) | (refine wp_alloc (o := ⟨some 19, _, _, _, _, _⟩) rfl 30 rfl _ alloc_d ?_))
                      intro w10 hr hg hz
                      clear hz
                      have hS10 := hS.new hr hg
                      clear hr hg hS
                      go_wp2_with (refine wp_storeAgg rfl 30 (.tmp 19) (.tmp 104) rfl wr.heap.size 0 30 zd (c8 x) rfl rfl (hS10.row 0 rfl) (info_dg x HX.out) (by rw [c8_length, HX.out]; decide) (one8 _) ?_)
                      intro w11 hr hg hz
                      clear hz
                      rw [splice_all (by rw [c8_length, HX.out]; decide)] at hr
                      have hS11 := hS10.setRow 0 rfl hr hg
                      simp only [List.set_cons_zero] at hS11
                      clear hr hg hS10
                      cases tb with
                      | true =>
                        go_wp2_with fail
                        have hS12 := hS11.drew
                        clear hS11
                        refine wp_region_mixC (fun W => Own w W _) (fun _ => true) [(0, true), (1, true), (2, true), (3, true), (4, true), (5, true), (6, true), (7, false)] (by kernel_rfl) (by kernel_rfl) hS12 ?_
                        iterate 2 (refine wpMix_step rfl (fun K hK => ?_); go_simp; (try go_bits); with_reducible refine hK _ ?_; clear hK K)
                        iterate 4 (refine wpMix_skip _ rfl rfl ?_)
                        iterate 1 (refine wpMix_step rfl (fun K hK => ?_); go_simp; (try go_bits); with_reducible refine hK _ ?_; clear hK K)
                        refine wpMix_loudW _ rfl rfl ?_
                        go_wp2_with fail
                        refine wpMix_next' (fun _ => hS12) ?_
                        unfold wpMix
                        have HMT2 := Lib.hid (show decide (nd ∈ R.take (j + 1)) = true by rw [HMT.out]; rfl)
                        go_wp2_with fail
                        go_roundw
                        case rel => exact ⟨j + 1, by rw [HMT2.out], by go_num, by omega, hS12.tail⟩
                        case measure => simp [intOf]; omega
                      | false =>
                        go_wp2_with fail
                        have hS12 := hS11.drew
                        clear hS11
                        refine wp_region_mixC (fun W => Own w W _) (fun _ => true) [(0, true), (1, true), (2, true), (3, true), (4, false), (5, true), (6, true), (7, false)] (by kernel_rfl) (by kernel_rfl) hS12 ?_
                        iterate 2 (refine wpMix_step rfl (fun K hK => ?_); go_simp; (try go_bits); with_reducible refine hK _ ?_; clear hK K)
                        refine wpMix_pureW (.agg (c8 x).toArray) rfl rfl (fun W hW => run_load_op 30 (.tmp 19) rfl Try.underlying30 rfl ⟨wr.heap.size, 0, none⟩ rfl _ (info_dg x HX.out) (row_all (hW.row 0 rfl))) ?_
                        iterate 1 (refine wpMix_step rfl (fun K hK => ?_); go_simp; (try go_bits); with_reducible refine hK _ ?_; clear hK K)
                        refine wpMix_loudW _ rfl rfl ?_
                        go_wp2_with fail
                        refine (HNOD.out _).mono ?_
                        rintro e w13 ⟨rfl, hg⟩
                        have hS13 := hS12.call hg
                        clear hg hS12
                        go_wp2_with fail
                        refine wpMix_next' (fun _ => hS13) ?_
                        iterate 2 (refine wpMix_step rfl (fun K hK => ?_); go_simp; (try go_bits); with_reducible refine hK _ ?_; clear hK K)
                        refine wpMix_loudW _ rfl rfl ?_
                        go_wp2_with fail
                        refine wpMix_next' (fun _ => hS13) ?_
                        unfold wpMix
                        have HMT2 := Lib.hid (show decide (nd ∈ R.take (j + 1)) = te by rw [HMT.out]; simp)
                        go_wp2_with fail
                        go_roundw
                        case rel => exact ⟨j + 1, by rw [HMT2.out], by go_num, by omega, hS13.tail⟩
                        case measure => simp [intOf]; omega
                    · obtain rfl : j = R.length := by omega
                      have q2 : ¬ ((R.length : Int) < (R.length : Int)) := by omega
                      have hmr : decide (nd ∈ R.take R.length) = hasKV blk5 nd := by rw [List.take_length, hasKV_mem, decide_eq_decide]; exact HMR.out nd
                      rw [hmr]
                      obtain ⟨tb, htb⟩ : ∃ tb, tb = hasKV blk5 nd := ⟨_, rfl⟩
                      rw [← htb]
                      have HTB := Lib.hid htb
                      have t1 : (tb != tb) = false := by simp
                      clear hmr htb hlj hj
                      go_wp2_with fail
                      refine (HNOD.out _).mono ?_
                      rintro e w12 ⟨rfl, hg⟩
                      have hS12 := hS.call hg
                      clear hg hS
                      go_wp2_with fail
                      refine (marked_any w _ K G B v5 blk5 _ _ nd HD.out HU5.out hS12).mono ?_
                      rw [← HTB.out]
                      rintro e w13 ⟨rfl, hg⟩
                      have hS13 := hS12.call hg
                      clear hg hS12
                      go_wp2_with fail
                      go_roundw
                      case rel => exact ⟨k + 1, by go_num, by omega, hS13⟩
                      case measure => simp [intOf]; omega
                · obtain rfl : k = 18 := by omega
                  go_wp2_with fail
                  refine (left_any w _ K G B v5 [] _ w.heap.size hS).mono ?_
                  rintro e w12 ⟨rfl, hg⟩
                  have hS12 := hS.call hg
                  clear hg hS
                  go_wp2_with fail
                  go_ret
                  exact ⟨rfl, hS12.grown⟩
end Go.Proofs.Ytnlnkojcbjaeeaa
