/- The statement GraphGrows' walk. -/
import Derived.Test.YtnlnkojcbjaeeaaTriLaw18
import Derived.Test.YtnlnkojcbjaeeaaOpenOp18
import Derived.Test.YtnlnkojcbjaeeaaOpenN
import Derived.Test.YtnlnkojcbjaeeaaWf
namespace Go.Proofs.Ytnlnkojcbjaeeaa
set_option linter.unusedVariables false
set_option linter.unusedSimpArgs false
set_option linter.unusedSectionVars false
open Go.RowKit
set_option linter.unusedVariables false
/-- 's[:k]' of steps -/
theorem run_to4 {P : Program} {t e : TypeId} (ht : P.underlying t = some (.slice e)) (hs : (P.info? e).map (·.size) = some 4) (A : Option Addr) (len cap k : Nat) (h2 : k ≤ cap) (W : World) :
    (Instr.slice t (.slice A len cap) none (some (.int .i64 (k : Int))) none).run P W = .ok (.slice A k cap) W := by
  have hel : P.elem t = e := by simp [Program.elem, ht]
  cases hq : P.info? e with
  | none => simp [hq] at hs
  | some i =>
    have hi : i.size = 4 := by simpa [hq] using hs
    rw [run_slice_h W t A len cap (by rw [hel]; exact ht) .i64 (k : Int) (by omega) (by omega)]
    have hce : P.cellsOf e = 4 := by simp [Program.cellsOf, hq, hi]
    rw [hel, run_sizeOf W hq, hce]
    have e0 : ∀ ad : Addr, ad.add 0 = ad := fun ad => by unfold Addr.add; split <;> simp_all
    simp [Result.andThen, sliced]
    intro _
    cases A <;> simp [e0]
theorem Own.sink4 {w0 w : World} {L : List Ent} {x a b c d : Ent} (h : Own w0 w (x :: a :: b :: c :: d :: L)) : Own w0 w (a :: b :: c :: d :: x :: L) :=
  h.perm (by
    have := (List.perm_append_comm (l₁ := [x]) (l₂ := [a, b, c, d])).append_right L
    simpa using this)
def opC (k : Int) (d : UInt8) (B : Option Addr) (l c : Nat) (n : Int) : List Value := [.int .i64 k, .int .u8 (n8 d), .slice B l c, .int .i64 n]
theorem alloc_op (W : World) : (Instr.alloc 51 true (.tuple #[])).run Try.prog W = .ok (.pointer (some ⟨W.heap.size, 0, none⟩)) (W.alloc (.cells ([.int .i64 0, .int .u8 0, .slice none 0 0, .int .i64 0] : List Value).toArray 51)) := by kernel_rfl
theorem info_op : (Try.prog.info? 51).map (·.size) = some 4 := by kernel_rfl
theorem one_op (k : Int) (d : UInt8) (B : Option Addr) (l c : Nat) (n : Int) : ∀ v ∈ opC k d B l c n, v.oneCell' = true := by
  intro v hv
  simp [opC] at hv
  rcases hv with rfl | rfl | rfl | rfl <;> rfl
theorem opAt_cells {w : World} {b o : Nat} {k : Int} {d : UInt8} {B : Option Addr} {l c : Nat} {n : Int} (h0 : w.cell? ⟨b, o, none⟩ = some (.int .i64 k)) (h1 : w.cell? ⟨b, o + 1, none⟩ = some (.int .u8 (n8 d))) (h2 : w.cell? ⟨b, o + 2, none⟩ = some (.slice B l c)) (h3 : w.cell? ⟨b, o + 3, none⟩ = some (.int .i64 n)) :
    ∀ j v, (opC k d B l c n)[j]? = some v → w.cell? ((⟨b, o, none⟩ : Addr).add j) = some v := by
  intro j v hv
  rw [addr_add]
  match j, hv with
  | 0, hv => simp [opC] at hv; subst hv; exact h0
  | 1, hv => simp [opC] at hv; subst hv; exact h1
  | 2, hv => simp [opC] at hv; subst hv; exact h2
  | 3, hv => simp [opC] at hv; subst hv; exact h3
  | n + 4, hv => simp [opC] at hv
set_option maxRecDepth 100000 in
set_option maxHeartbeats 8000000 in
theorem walk_GraphGrows (w : World) (A : Option Addr) (n c : Nat) (E : List (List UInt8)) (hn : E.length = n) (hE : RowsB w A E) (hc : n ≤ c) (A1 : Option Addr) (c1 : Nat) (roots : List UInt8) (hr : Bytes w A1 roots) (hc1 : roots.length ≤ c1) (hr1 : c1 ≤ 140737488351232) (hnil : A1 = none → c1 = 0)
    (A2 : Option Addr) (n2 c2 : Nat) (O : List OpV) (hn2 : O.length = n2) (hO : OpsIn w A2 O) (hc2 : n2 ≤ c2) :
    Calls Try.prog 5 #[.slice A n c, .slice A1 roots.length c1, .slice A2 n2 c2] w fun e w' => e = .returned (.bool true) ∧ w.grownBy w' none := by
  subst hn
  subst hn2
  obtain ⟨m, hmn, hk1, hk2, hk3, hk4, hme, hm9⟩ := min_facts E.length 9 9 rfl
  obtain ⟨m2, gmn, gk1, gk2, gk3, gk4, gme, gm40⟩ := min_facts O.length 40 40 rfl
  have hsl := fun W => run_to8 (P := Try.prog) (t := 22) (e := 23) Try.underlying22 (by kernel_rfl) A E.length c m (by omega) W
  have gsl := fun W => run_to4 (P := Try.prog) (t := 49) (e := 51) Try.underlying49 (by kernel_rfl) A2 O.length c2 m2 (by omega) W
  have HGME := Lib.hid gme
  have HE := Lib.hid hE
  have HME := Lib.hid hme
  have HR := Lib.hid hr
  have HC1 := Lib.hid hc1
  have HR1 := Lib.hid hr1
  have HN1 := Lib.hid hnil
  have HO := Lib.hid hO
  clear hE hme hr hc1 hr1 hnil hO hc2 hc gme
  go_enter Try.func5, Try.ntmps5
  go_wp2_with fail
  refine (newG_any w).mono ?_
  rintro e w1 ⟨G, M, rfl, hS⟩
  go_wp2
  go_loopw [23] (fun i wr => ∃ (k : Nat) (kv : KV) (L : List Ent), i = .int .i64 (k : Int) ∧ k ≤ m ∧ EdgesIn L kv (seedK E k) ∧ Own w wr (gE G M :: mapE M kv :: L)) (fun i _ => m - (intOf i).toNat)
  case atStart => exact ⟨0, [], [], rfl, by omega, .nil, hS⟩
  case round =>
    clear hS
    obtain ⟨k, kv, L, rfl, hk, he, hS⟩ := hrel
    by_cases hlt : k < m
    · have q1 : (k : Int) < (m : Int) := by omega
      have q2 : (k : Int) < 9 := by omega
      obtain ⟨b, off, B, cB, rfl, hcell, hB, hcb, hcb2, hnb⟩ := HE.out k (by have := HME.out; omega)
      obtain ⟨l, hl⟩ : ∃ l, l = E.getD k [] := ⟨_, rfl⟩
      rw [← hl] at hcell hB hcb
      have hcell' := hS.cell hcell
      have HKN := Lib.hid (node_of k (by omega))
      have HB := Lib.hid hB
      have HCB := Lib.hid hcb
      have HCB2 := Lib.hid hcb2
      have HNB := Lib.hid hnb
      have HS' := Lib.hid (show seedK E (k + 1) = putN (seedK E k) (nodeL (UInt8.ofNat k)) (nodesL l) by rw [hl]; rfl)
      obtain ⟨d, hd⟩ : ∃ d, d = nodeL (UInt8.ofNat k) := ⟨_, rfl⟩
      rw [← hd] at HKN HS'
      have HD := Lib.hid (show d.length = 32 by rw [hd]; exact nodeL_len _)
      obtain ⟨to, hto⟩ : ∃ to, to = nodesL l := ⟨_, rfl⟩
      have HTO := Lib.hid hto
      have HTL := Lib.hid (show to.length ≤ 4096 by rw [hto]; exact Nat.le_trans (nodesL_len l) (by omega))
      rw [← hto] at HS'
      clear hcell hl hB hcb hcb2 hnb hd hto
      go_wp2_with fail
      refine (HKN.out _).mono ?_
      rintro e w2 ⟨rfl, hg⟩
      have hS2 := hS.call hg
      have hcell2 := hg.cell hcell' (by simp)
      clear hg hS hcell'
      go_wp2_with fail
      refine (nodes_any B cB l _ (HB.out.keep hS2.grown) HCB.out HCB2.out HNB.out).mono ?_
      rintro e w3 ⟨v3, rfl, ho, hg⟩
      rw [← HTO.out] at ho
      have hS3 := (hS2.madeR ho hg).sink2
      obtain ⟨A3, c3, rfl, hrows, -⟩ := ownsR_open ho
      clear hg hS2 ho hcell2
      go_wp2_with fail
      refine (put_st w _ G M kv (seedK E k) _ d A3 c3 to.length to hS3 he.more HD.out rfl hrows HTL.out).mono ?_
      rintro e w4 ⟨rfl, kv4, v4, he4, hS4⟩
      rw [← HS'.out] at he4
      have HE4 := Lib.hid he4
      clear hS3 hrows he he4
      go_wp2
      go_roundw
      case rel => exact ⟨k + 1, kv4, _, by go_num, by omega, HE4.out, hS4⟩
      case measure => simp [intOf]; omega
    · obtain rfl : k = m := by omega
      have q1 : ¬ ((k : Int) < (k : Int)) := by omega
      have hseed := seed_low E k
      have hseedl := seed_len E k
      obtain ⟨ns, hns⟩ : ∃ ns, ns = seedK E k := ⟨_, rfl⟩
      rw [← hns] at hseed hseedl he
      have HLOW := Lib.hid hseed
      have HLEN := Lib.hid (show ns.length ≤ 9 by omega)
      have HED := Lib.hid he
      obtain ⟨rt, hrt⟩ : ∃ rt, rt = nodesL roots := ⟨_, rfl⟩
      have HRT := Lib.hid hrt
      have HRTL := Lib.hid (show rt.length ≤ 12 by rw [hrt]; exact nodesL_len _)
      clear hseed hseedl hns he hrt hlt
      have kn := fun (W : World) (hg : w.grownBy W none) => nodes_any A1 c1 roots W (HR.out.keep hg) HC1.out (by have := HR1.out; omega) HN1.out
      rw [← HRT.out] at kn
      have HKN := Lib.hid kn
      clear kn hsl hk1 hk2 hk3 hk4 hmn
      go_wp2_with fail
      refine (HKN.out _ hS.grown).mono ?_
      rintro e w2 ⟨v2, rfl, ho, hg⟩
      have hS2 := (hS.madeR ho hg).sink2
      obtain ⟨A3, c3, rfl, hrows, -⟩ := ownsR_open ho
      clear hg hS ho
      go_wp2_with fail
      refine (mark_any w2 G A3 c3 rt hrows (by have := HRTL.out; omega)).mono ?_
      rintro e w3 ⟨K, B, v3, rfl, hT⟩
      have hS3 := (hS2.join hT).lowerQ 2 rfl
      simp only [List.cons_append, List.nil_append, List.set_cons_zero, List.set_cons_succ] at hS3
      obtain ⟨L3, hS3', hED3⟩ : ∃ L3, Own w w3 (mkL K G M B w.heap.size v3 [] rt kv L3) ∧ EdgesIn L3 kv ns := ⟨_, hS3, HED.out.more⟩
      have HED3 := Lib.hid hED3
      clear hT hS2 hrows hS3 hED3
      go_wp2_with fail
      refine (awake_any _).mono ?_
      rintro e w4 ⟨rfl, hg⟩
      have hS4 := hS3'.call hg
      clear hg hS3'
      go_wp2
      clear gsl gk1 gk2 gk3 gk4 gmn
      go_loopw [52] (fun i wr => ∃ (j : Nat) (v : Value) (blk : KV) (gray : List Dg) (kv : KV) (ns : Nodes) (L : List Ent), i = .int .i64 (j : Int) ∧ j ≤ m2 ∧ Units blk ∧ Tri ns rt (gray, keysOf blk) ∧ Low ns ∧ ns.length ≤ 9 + j ∧ gray.length ≤ 12 + 48 * j ∧ EdgesIn L kv ns ∧ Own w wr (mkL K G M B w.heap.size v blk gray kv L)) (fun i _ => m2 - (intOf i).toNat)
      case atStart => exact ⟨0, v3, [], rt, kv, ns, L3, rfl, by omega, (by intro p hp; cases hp), tri_start ns rt, HLOW.out, by have := HLEN.out; omega, by have := HRTL.out; omega, HED3.out, hS4⟩
      case round =>
        clear hS4 HED3 HLOW HLEN HED
        clear L3 ns kv L v3
        obtain ⟨j, v, blk, gray, kv, ns, L, rfl, hj, hU, htri, hlow, hlen, hgl, he, hS⟩ := hrel
        have HU := Lib.hid hU
        have HTRI := Lib.hid htri
        have HLOW := Lib.hid hlow
        have HLEN := Lib.hid hlen
        have HGL := Lib.hid hgl
        have HED := Lib.hid he
        clear hU htri hlow hlen hgl he
        by_cases hlt : j < m2
        · have q1 : (j : Int) < (m2 : Int) := by omega
          have q2 : (j : Int) < 40 := by omega
          obtain ⟨b2, off2, rfl, hop⟩ := HO.out j (by have := HGME.out; omega)
          obtain ⟨h0, h1, ⟨OB, oc, h2, hOB, hoc, hoc2, honil⟩, h3, hwk, hwn⟩ := hop
          have hcells := opAt_cells (hS.cell h0) (hS.cell h1) (hS.cell h2) (hS.cell h3)
          obtain ⟨x, hx⟩ : ∃ x, x = O.getD j opZ := ⟨_, rfl⟩
          rw [← hx] at hcells hOB hoc hwk hwn
          obtain ⟨ok, od, oto, on⟩ := x
          simp only at hcells hOB hoc hwk hwn
          have HC := Lib.hid hcells
          have HOB := Lib.hid hOB
          have HOC := Lib.hid hoc
          have HOC2 := Lib.hid hoc2
          have HON := Lib.hid honil
          have HWN := Lib.hid (of_i64 hwn)
          clear h0 h1 h2 h3 hcells hOB hoc hoc2 honil hwk hwn hx
          go_wp2_with (first | (refine wp_load rfl 51 (.tmp 54) rfl Try.underlying51 rfl ⟨b2, off2 + j * 4, none⟩ rfl (opC ok od OB oto.length oc on) info_op HC.out ?_) | (refine wp_alloc (o := ⟨some 12, _, _, _, _, _⟩) rfl 51 rfl _ alloc_op ?_))
          intro w5 hr hg hz
          clear hz
          have hS5 := hS.new hr hg
          clear hr hg hS
          go_wp2_with (refine wp_storeAgg rfl 51 (.tmp 12) (.tmp 55) rfl wr.heap.size 0 51 [.int .i64 0, .int .u8 0, .slice none 0 0, .int .i64 0] (opC ok od OB oto.length oc on) rfl rfl (hS5.row 0 rfl) info_op (by simp [opC]) (one_op _ _ _ _ _ _) ?_)
          intro w6 hr hg hz
          clear hz
          rw [splice_all (by simp [opC])] at hr
          have hS6 := hS5.setRow 0 rfl hr hg
          simp only [List.set_cons_zero] at hS6
          clear hr hg hS5
          have c0 := (hS6.row 0 rfl).cell 0
          simp [opC] at c0
          cases hb : (ok.tmod 2 == 0) with
          | true =>
            obtain ⟨d, hd⟩ : ∃ d, d = nodeL od := ⟨_, rfl⟩
            have hnd := node_any od
            rw [← hd] at hnd
            have HNOD := Lib.hid (show ∀ W, Calls Try.prog 10 #[.int .u8 (n8 od)] W fun e w' => e = .returned (.agg (c8 d).toArray) ∧ W.grownBy w' none from hnd)
            have HD := Lib.hid (show d.length = 32 by rw [hd]; exact nodeL_len _)
            obtain ⟨to, hto⟩ : ∃ to, to = nodesL oto := ⟨_, rfl⟩
            have HTO := Lib.hid hto
            have HTL := Lib.hid (show to.length ≤ 12 by rw [hto]; exact nodesL_len oto)
            clear hnd hd hto
            go_wp2_with fail
            have hS7 := hS6.drew
            clear hS6
            refine wp_region_mixC (fun W => Own w W [rowE wr.heap.size 51 (opC ok od OB oto.length oc on)]) (fun _ => true) [(0, true), (1, true), (2, true), (4, true), (5, true), (3, false), (6, false), (7, false)] (by kernel_rfl) (by kernel_rfl) (hS7.sub ((List.nil_sublist _).cons_cons _)) ?_
            iterate 2 (refine wpMix_step rfl (fun K hK => ?_); go_simp; (try go_bits); with_reducible refine hK _ ?_; clear hK K)
            refine wpMix_pureW _ rfl rfl (fun W hW => run_load_cell 5 (.tmp 61) rfl Try.underlying5 rfl ⟨wr.heap.size, 1, none⟩ rfl _ (((hW.row 0 rfl).cell 1).trans rfl)) ?_
            iterate 1 (refine wpMix_step rfl (fun K hK => ?_); go_simp; (try go_bits); with_reducible refine hK _ ?_; clear hK K)
            refine wpMix_pureW _ rfl rfl (fun W hW => run_load_cell 23 (.tmp 64) rfl Try.underlying23 rfl ⟨wr.heap.size, 2, none⟩ rfl _ (((hW.row 0 rfl).cell 2).trans rfl)) ?_
            refine wpMix_loudW _ rfl rfl ?_
            go_wp2_with fail
            refine (HNOD.out _).mono ?_
            rintro e w8 ⟨rfl, hg⟩
            have hS8 := hS7.call hg
            clear hg hS7
            go_wp2_with fail
            refine wpMix_next' (fun _ => hS8.sub ((List.nil_sublist _).cons_cons _)) ?_
            refine wpMix_loudW _ rfl rfl ?_
            go_wp2_with fail
            refine (nodes_any OB oc oto _ (HOB.out.keep hS8.grown) HOC.out HOC2.out HON.out).mono ?_
            rintro e w9 ⟨v9, rfl, ho, hg⟩
            rw [← HTO.out] at ho
            have hS9 := hS8.madeR ho hg
            obtain ⟨A9, c9, rfl, hrows, -⟩ := ownsR_open ho
            have HROWS := Lib.hid hrows
            clear hg hS8 ho hrows
            go_wp2_with fail
            refine wpMix_next' (fun _ => hS9.tail.sub ((List.nil_sublist _).cons_cons _)) ?_
            have hS9g : Own w w9 (gE G M :: mapE M kv :: rowsE w8.heap.size 30 (.slice A9 to.length c9) to :: kE K G v B :: mapE B blk :: qE w.heap.size v gray :: rowE wr.heap.size 51 (opC ok od OB oto.length oc on) :: L) := hS9.rowsPut
            clear hS9
            refine wpMix_loudW _ rfl rfl ?_
            go_wp2_with fail
            refine (put_st2 w _ G M kv ns _ L d A9 c9 to.length to hS9g HED.out HD.out rfl HROWS.out (by have := HTL.out; omega)).mono ?_
            rintro e w10 ⟨rfl, kv', v10, he10, hS10⟩
            have hS11 := hS10.rotG
            have hE11 := he10.mid2 (rowsE w8.heap.size 30 (.slice A9 to.length c9) to) (rowE wr.heap.size 51 (opC ok od OB oto.length oc on))
            have HE11 := Lib.hid hE11
            clear he10 hS9g hS10 hE11
            go_wp2_with fail
            refine wpMix_next' (fun _ => hS11.sub (List.singleton_sublist.2 (by simp))) ?_
            unfold wpMix
            have c1 := (hS11.row 7 rfl).cell 1
            simp [opC] at c1
            have hbs := hS11.size
            go_wp2_with fail
            refine (HNOD.out _).mono ?_
            rintro e w12 ⟨rfl, hg⟩
            have hS12 := hS11.call hg
            clear hg hS11 c1 hbs
            go_wp2_with fail
            refine (gray_any w _ K G B w.heap.size v blk gray _ d HD.out hS12.size (by have := HGL.out; omega) hS12).mono ?_
            rintro e w13 ⟨v13, rfl, hS13⟩
            have HU13 := Lib.hid (HU.out.del d)
            have HTRI13 := Lib.hid (show Tri (putN ns d to) rt (gray ++ [d], keysOf (delKV blk d)) by rw [keysOf_del]; exact tri_put ns rt gray (keysOf blk) d to HTRI.out)
            have HLOW13 := Lib.hid (putN_low HLOW.out d to HTL.out)
            have HLEN13 := Lib.hid (show (putN ns d to).length ≤ 9 + (j + 1) by have := putN_len ns d to; have := HLEN.out; omega)
            have HGL13 := Lib.hid (show (gray ++ [d]).length ≤ 12 + 48 * (j + 1) by have := HGL.out; simp; omega)
            clear hS12
            go_wp2_with fail
            go_roundw
            case rel => exact ⟨j + 1, v13, delKV blk d, gray ++ [d], kv', putN ns d to, _, by go_num, by omega, HU13.out, HTRI13.out, HLOW13.out, HLEN13.out, HGL13.out, HE11.out, hS13⟩
            case measure => simp [intOf]; omega
          | false =>
            have c3 := (hS6.row 0 rfl).cell 3
            simp [opC] at c3
            obtain ⟨z, hz⟩ : ∃ z, z = on.tmod 5 := ⟨_, rfl⟩
            have hzb : z ≤ 4 := by have := Int.tmod_lt_of_pos on (show (0 : Int) < 5 by omega); omega
            have hfree := (HED.out.more (x := rowE wr.heap.size 51 (opC ok od OB oto.length oc on)))
            have HFREE := Lib.hid hfree
            have hpot := pot_le HLOW.out gray (keysOf blk)
            have k2 := step_any w w6 K G M B w.heap.size v blk gray kv ns _ z (Nat.le_refl _) (by omega) HU.out HFREE.out HLOW.out.wide (by have := HLEN.out; have := HGL.out; omega) hS6.sink5
            have hzb2 : z.toNat ≤ 4 := by omega
            have hgr := step_gray HLOW.out z.toNat (gray, keysOf blk)
            have htr := tri_step ns rt z.toNat _ HTRI.out
            obtain ⟨res, hres⟩ : ∃ res, res = stepM ns z.toNat (gray, keysOf blk) := ⟨_, rfl⟩
            rw [← hres] at k2 htr hgr
            have HGR := Lib.hid (show res.1.length ≤ 12 + 48 * (j + 1) by have := HGL.out; simp only at hgr; omega)
            have HTR := Lib.hid htr
            rw [hz] at k2
            clear hz hzb hfree hpot hzb2 hgr htr hres
            go_wp2_with fail
            refine k2.mono ?_
            rintro e w7 ⟨v7, blk7, rfl, hU7, hk7, hS7⟩
            have HU7 := Lib.hid hU7
            have HK7 := Lib.hid hk7
            clear k2 hU7 hk7 hS6 c3 c0
            go_wp2_with fail
            go_roundw
            case rel => exact ⟨j + 1, v7, blk7, res.1, kv, ns, _, by go_num, by omega, HU7.out, by rw [HK7.out]; exact HTR.out, HLOW.out, by have := HLEN.out; omega, HGR.out, HFREE.out, hS7⟩
            case measure => simp [intOf]; omega
        · obtain rfl : j = m2 := by omega
          have q1 : ¬ ((j : Int) < (j : Int)) := by omega
          have hpot := pot_le HLOW.out gray (keysOf blk)
          have HNS := Lib.hid (show ns.length ≤ 49 by have := HLEN.out; omega)
          have HPP := Lib.hid (show pot ns (gray, keysOf blk) ≤ 9000 by have := HNS.out; have := HGL.out; omega)
          have HS := Lib.hid hS
          clear hpot hS hlt
          go_wp2_with fail
          go_loopw [13] (fun i wr => ∃ (k : Nat) (v : Value) (blk : KV) (gray : List Dg), i = .int .i64 (k : Int) ∧ pot ns (gray, keysOf blk) + k ≤ 9000 ∧ Units blk ∧ Tri ns rt (gray, keysOf blk) ∧ Own w wr (mkL K G M B w.heap.size v blk gray kv L)) (fun i _ => 10000 - (intOf i).toNat)
          case atStart => exact ⟨0, v, blk, gray, rfl, by have := HPP.out; omega, HU.out, HTRI.out, HS.out⟩
          case round =>
            clear HS HPP HU HTRI HGL
            clear v blk gray
            obtain ⟨t, v, blk, gray, rfl, hpt, hU, htri, hS⟩ := hrel
            have q2 : (t : Int) < 10000 := by omega
            have k2 := step_any w wr K G M B w.heap.size v blk gray kv ns L 1 (Nat.le_refl _) (by omega) hU HED.out HLOW.out.wide (by omega) hS
            have e1 : Int.toNat 1 = 1 := rfl
            rw [e1] at k2
            have htr := tri_step ns rt 1 _ htri
            obtain ⟨res, hres⟩ : ∃ res, res = stepM ns 1 (gray, keysOf blk) := ⟨_, rfl⟩
            rw [← hres] at k2 htr
            have HTR := Lib.hid htr
            obtain ⟨tb, htb⟩ : ∃ tb, decide (res.1 = []) = tb := ⟨_, rfl⟩
            rw [htb] at k2
            have HTB := Lib.hid htb
            have HPL := Lib.hid (show res.1 ≠ [] → pot ns res + (t + 1) ≤ 9000 from fun h => by
              have := pot_step_lt ns 1 (gray, keysOf blk) (by omega) (by rw [← hres]; exact h)
              rw [← hres] at this
              omega)
            have HPR := Lib.hid (show pot ns res ≤ 9000 by
              have := pot_step ns 1 (gray, keysOf blk)
              rw [← hres] at this
              omega)
            clear e1 hres htb hU htri htr hS
            go_wp2_with fail
            refine k2.mono ?_
            rintro e w5 ⟨v5, blk5, rfl, hU5, hk5, hS5⟩
            have HU5 := Lib.hid hU5
            have HK5 := Lib.hid hk5
            clear k2 hU5 hk5
            cases tb with
            | false =>
              have hne : res.1 ≠ [] := of_decide_eq_false HTB.out
              have HPN := Lib.hid (HPL.out hne)
              clear hne
              go_wp2_with fail
              go_roundw
              case rel => exact ⟨t + 1, v5, blk5, res.1, by go_num, by rw [HK5.out]; exact HPN.out, HU5.out, by rw [HK5.out]; exact HTR.out, hS5⟩
              case measure => simp [intOf]; omega
            | true =>
              have h0 : res.1 = [] := of_decide_eq_true HTB.out
              have HALL := Lib.hid (show ∀ x ∈ reachB ns rt, x ∈ keysOf blk5 from tri_end (by rw [HK5.out, ← h0]; exact HTR.out))
              rw [h0] at hS5
              clear h0
              have hS5' := hS5.toG
              have HFREE := Lib.hid (((HED.out.more (x := qE w.heap.size v5 [])).more (x := mapE B blk5)).more (x := kE K G v5 B))
              have hpr := pot_le HLOW.out rt []
              clear hS5
              go_wp2_with fail
              refine (HKN.out _ hS5'.grown).mono ?_
              rintro e w6 ⟨v6, rfl, ho, hg⟩
              have hS6 := (hS5'.madeR ho hg).sink2
              obtain ⟨A6, c6, rfl, hrows, -⟩ := ownsR_open ho
              clear hg hS5' ho
              go_wp2_with fail
              refine (reach_any w _ G M kv ns _ A6 c6 rt hS6 HFREE.out.more HLOW.out.wide (by have := HNS.out; omega) hrows (by have := HRTL.out; omega) (by have := HNS.out; have := HRTL.out; omega)).mono ?_
              rintro e w7 ⟨v7, R, rfl, hpR, hri, hS7⟩
              have HMR := Lib.hid (show ∀ x ∈ R, x ∈ keysOf blk5 from fun x hx => HALL.out x (hpR.mem_iff.1 hx))
              obtain ⟨AR, cR, rfl, -, -⟩ := ownsR_open (hS7.rows 0 rfl)
              have HRL := Lib.hid (show R.length ≤ 49 from Nat.le_trans (reach_len hpR hri) HNS.out)
              clear hrows hS6 hpR hri hpr
              have hS8 := hS7.rot43
              clear hS7
              obtain ⟨L8, hS8', hAll⟩ : ∃ L8, Own w w7 (kE K G v5 B :: qE w.heap.size v5 [] :: mapE B blk5 :: rowsE w.heap.size 30 (.slice AR R.length cR) R :: L8) ∧ True := ⟨_, hS8, trivial⟩
              clear hS8 hAll
              go_wp2_with fail
              go_loopw [93] (fun i wr => ∃ (j : Nat) (L8 : List Ent), i = .int .i64 (j : Int) ∧ j ≤ R.length ∧ Own w wr (kE K G v5 B :: qE w.heap.size v5 [] :: mapE B blk5 :: rowsE w.heap.size 30 (.slice AR R.length cR) R :: L8)) (fun i _ => R.length - (intOf i).toNat)
              case atStart => exact ⟨0, L8, rfl, by omega, hS8'⟩
              case round =>
                clear hS8'
                clear L8
                obtain ⟨j, L8, rfl, hj, hS⟩ := hrel
                by_cases hlj : j < R.length
                · have q2 : (j : Int) < (R.length : Int) := by omega
                  have q3 : (j : Int) < 49 := by have := HRL.out; omega
                  obtain ⟨-, hrl, -⟩ := own_slice (hS.rows 3 rfl)
                  obtain ⟨b2, off2, rfl, hcell⟩ := hrl.at_ j hlj
                  have HX := Lib.hid (hrl.all.at_ j hlj)
                  have hmx : R.getD j [] ∈ R := by rw [List.getD_eq_getElem?_getD, List.getElem?_eq_getElem hlj]; exact List.getElem_mem hlj
                  have HMT := Lib.hid (show hasKV blk5 (R.getD j []) = true by rw [hasKV_mem]; exact decide_eq_true (HMR.out _ hmx))
                  obtain ⟨x, hx⟩ : ∃ x, x = R.getD j [] := ⟨_, rfl⟩
                  rw [← hx] at hcell HX HMT
                  have HC := Lib.hid hcell
                  clear hrl hcell hmx hx
                  go_wp2_with (first | (refine wp_load rfl 30 (.tmp 95) rfl Try.underlying30 rfl ⟨b2, off2 + j * 32, none⟩ rfl (c8 x) (info_dg x HX.out) HC.out ?_) | (refine wp_alloc (o := ⟨some 15, _, _, _, _, _⟩) rfl 30 rfl _ alloc_d ?_))
                  intro w10 hr hg hz
                  clear hz
                  have hS10 := hS.new hr hg
                  clear hr hg hS
                  go_wp2_with (refine wp_storeAgg rfl 30 (.tmp 15) (.tmp 96) rfl wr.heap.size 0 30 zd (c8 x) rfl rfl (hS10.row 0 rfl) (info_dg x HX.out) (by rw [c8_length, HX.out]; decide) (one8 _) ?_)
                  intro w11 hr hg hz
                  clear hz
                  rw [splice_all (by rw [c8_length, HX.out]; decide)] at hr
                  have hS11 := hS10.setRow 0 rfl hr hg
                  simp only [List.set_cons_zero] at hS11
                  clear hr hg hS10
                  go_wp2_with (refine wp_load rfl 30 (.tmp 15) rfl Try.underlying30 rfl ⟨wr.heap.size, 0, none⟩ rfl (c8 x) (info_dg x HX.out) (row_all (hS11.row 0 rfl)) ?_)
                  refine (marked_any w _ K G B v5 blk5 _ _ x HX.out HU5.out hS11.sink4).mono ?_
                  rw [HMT.out]
                  rintro e w13 ⟨rfl, hg⟩
                  have hS13 := hS11.sink4.call hg
                  clear hg hS11
                  go_wp2_with fail
                  go_roundw
                  case rel => exact ⟨j + 1, _, by go_num, by omega, hS13⟩
                  case measure => simp [intOf]; omega
                · obtain rfl : j = R.length := by omega
                  have q2 : ¬ ((R.length : Int) < (R.length : Int)) := by omega
                  go_wp2_with fail
                  refine (left_any w _ K G B v5 [] _ w.heap.size hS).mono ?_
                  rintro e w12 ⟨rfl, hg⟩
                  have hS12 := hS.call hg
                  clear hg hS
                  go_wp2_with fail
                  go_ret
                  exact ⟨rfl, hS12.grown⟩
end Go.Proofs.Ytnlnkojcbjaeeaa
