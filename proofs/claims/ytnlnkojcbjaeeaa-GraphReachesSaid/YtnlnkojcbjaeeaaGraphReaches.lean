/- The statement GraphReaches' walk. -/
import Derived.Test.YtnlnkojcbjaeeaaRLaw18
import Derived.Test.YtnlnkojcbjaeeaaOpenE18
import Derived.Test.YtnlnkojcbjaeeaaOpenN
import Derived.Test.YtnlnkojcbjaeeaaWf
namespace Go.Proofs.Ytnlnkojcbjaeeaa
set_option linter.unusedVariables false
set_option linter.unusedSimpArgs false
set_option linter.unusedSectionVars false
open Go.RowKit
set_option linter.unusedVariables false
def seedR (E : List (List UInt8)) : Nat → Nodes
  | 0 => []
  | k + 1 => putR (seedR E k) (nodeL (UInt8.ofNat k)) (nodesL (E.getD k []))
theorem seed_agree (E : List (List UInt8)) : ∀ k, Agree (seedK E k) (seedR E k)
  | 0 => Agree.nil
  | k + 1 => (seed_agree E k).put _ _ (nodeL_len _)
theorem seedR_len (E : List (List UInt8)) : ∀ k, (seedR E k).length ≤ k
  | 0 => Nat.le_refl _
  | k + 1 => Nat.le_trans (putR_len _ _ _) (Nat.succ_le_succ (seedR_len E k))
theorem seedR_low (E : List (List UInt8)) : ∀ k, Low (seedR E k)
  | 0 => fun p hp => by cases hp
  | k + 1 => putR_low (seedR_low E k) _ _ (nodesL_len _)
/-- the graph and the document's list, in memory -/
abbrev grL (w0 : World) (G M : Nat) (kv : KV) (rv : Value) (rkv : KV) (L : List Ent) : List Ent := gE G M :: mapE M kv :: nodesE w0.heap.size rv rkv :: L
theorem Own.refRot {w0 w : World} {L : List Ent} {n r g m a b o : Ent} (h : Own w0 w (n :: r :: g :: m :: a :: b :: o :: L)) : Own w0 w (g :: m :: n :: r :: a :: L) := by
  have h1 := h.perm (L' := g :: m :: n :: r :: a :: b :: o :: L) (by
    have := (List.perm_append_comm (l₁ := [n, r]) (l₂ := [g, m])).append_right (a :: b :: o :: L)
    simpa using this)
  exact h1.sub ((((((((List.Sublist.refl L).cons o).cons b).cons_cons a).cons_cons r).cons_cons n).cons_cons m).cons_cons g)
set_option maxRecDepth 100000 in
set_option maxHeartbeats 8000000 in
theorem walk_GraphReaches (w : World) (A : Option Addr) (n c : Nat) (E : List (List UInt8)) (hn : E.length = n) (hE : RowsB w A E) (hc : n ≤ c) (A1 : Option Addr) (c1 : Nat) (roots : List UInt8) (hr : Bytes w A1 roots) (hc1 : roots.length ≤ c1) (hr1 : c1 ≤ 140737488351232) (hnil : A1 = none → c1 = 0) :
    Calls Try.prog 3 #[.slice A n c, .slice A1 roots.length c1] w fun e w' => e = .returned (.bool true) ∧ w.grownBy w' none := by
  subst hn
  obtain ⟨m, hmn, hk1, hk2, hk3, hk4, hme, hm9⟩ := min_facts E.length 9 9 rfl
  have hsl := fun W => run_to8 (P := Try.prog) (t := 22) (e := 23) Try.underlying22 (by kernel_rfl) A E.length c m (by omega) W
  have HE := Lib.hid hE
  have HME := Lib.hid hme
  have HR := Lib.hid hr
  have HC1 := Lib.hid hc1
  have HR1 := Lib.hid hr1
  have HN1 := Lib.hid hnil
  clear hE hme hr hc1 hr1 hnil hc
  go_enter Try.func3, Try.ntmps3
  go_wp2_with fail
  refine (newG_any w).mono ?_
  rintro e w1 ⟨G, M, rfl, hS⟩
  have hS0 : Own w w1 (grL w G M [] (.slice none 0 0) [] []) := (hS.nilN w.heap.size).sink2
  clear hS
  go_wp2
  go_loopw [6, 17] (fun rv i wr => ∃ (k : Nat) (kv rkv : KV) (L : List Ent), i = .int .i64 (k : Int) ∧ k ≤ m ∧ EdgesIn L kv (seedK E k) ∧ EdgesR L rkv (seedR E k) ∧ Own w wr (grL w G M kv rv rkv L)) (fun _ i _ => m - (intOf i).toNat)
  case atStart => exact ⟨0, [], [], [], rfl, by omega, .nil, .nil, hS0⟩
  case round =>
    clear hS0
    obtain ⟨k, kv, rkv, L, rfl, hk, he, her, hS⟩ := hrel
    by_cases hlt : k < m
    · have q1 : (k : Int) < (m : Int) := by omega
      have q2 : (k : Int) < 9 := by omega
      obtain ⟨b, off, B, cB, rfl, hcell, hB, hcb, hcb2, hnb⟩ := HE.out k (by have := HME.out; omega)
      obtain ⟨l, hl⟩ : ∃ l, l = E.getD k [] := ⟨_, rfl⟩
      rw [← hl] at hcell hB hcb
      have hcell' := hS.cell hcell
      have HKN := Lib.hid (node_of k (by omega))
      have HB := Lib.hid hB
      have HCB := Lib.hid hcb
      have HCB2 := Lib.hid hcb2
      have HNB := Lib.hid hnb
      have HS' := Lib.hid (show seedK E (k + 1) = putN (seedK E k) (nodeL (UInt8.ofNat k)) (nodesL l) by rw [hl]; rfl)
      have HSR := Lib.hid (show seedR E (k + 1) = putR (seedR E k) (nodeL (UInt8.ofNat k)) (nodesL l) by rw [hl]; rfl)
      have HRL := Lib.hid (show rkv.length ≤ 9 by have := her.len; have := seedR_len E k; omega)
      obtain ⟨d, hd⟩ : ∃ d, d = nodeL (UInt8.ofNat k) := ⟨_, rfl⟩
      rw [← hd] at HKN HS' HSR
      have HD := Lib.hid (show d.length = 32 by rw [hd]; exact nodeL_len _)
      obtain ⟨to, hto⟩ : ∃ to, to = nodesL l := ⟨_, rfl⟩
      have HTO := Lib.hid hto
      have HTL := Lib.hid (show to.length ≤ 12 by rw [hto]; exact nodesL_len l)
      have HT32 := Lib.hid (show L32 to by rw [hto]; exact nodesL_32 l)
      rw [← hto] at HS' HSR
      have HER := Lib.hid her
      clear hcell hl hB hcb hcb2 hnb hd hto her
      go_wp2_with fail
      refine (HKN.out _).mono ?_
      rintro e w2 ⟨rfl, hg⟩
      have hS2 := hS.call hg
      have hcell2 := hg.cell hcell' (by simp)
      clear hg hS hcell'
      go_wp2_with fail
      refine (nodes_any B cB l _ (HB.out.keep hS2.grown) HCB.out HCB2.out HNB.out).mono ?_
      rintro e w3 ⟨v3, rfl, ho, hg⟩
      rw [← HTO.out] at ho
      have hS3 := (hS2.madeR ho hg).sink2
      obtain ⟨A3, c3, rfl, hrows, -⟩ := ownsR_open ho
      clear hg hS2 ho hcell2
      go_wp2_with fail
      refine (put_st2 w _ G M kv (seedK E k) _ L d A3 c3 to.length to hS3 he HD.out rfl hrows (by have := HTL.out; omega)).mono ?_
      rintro e w4 ⟨rfl, kv4, v4, he4, hS4⟩
      rw [← HS'.out] at he4
      have HE4 := Lib.hid he4
      clear hS3 hrows he he4
      go_wp2_with fail
      refine (HKN.out _).mono ?_
      rintro e w5 ⟨rfl, hg⟩
      have hS5 := hS4.call hg
      clear hg hS4
      go_wp2_with fail
      refine (nodes_any B cB l _ (HB.out.keep hS5.grown) HCB.out HCB2.out HNB.out).mono ?_
      rintro e w6 ⟨v6, rfl, ho, hg⟩
      rw [← HTO.out] at ho
      have hS6 := hS5.call hg
      obtain ⟨A6, c6, rfl, hrows, -⟩ := ownsR_open ho
      clear hg hS5 ho
      go_wp2_with fail
      refine (from_any A6 c6 to w6 hrows (by have := HTL.out; omega)).mono ?_
      rintro e w7 ⟨v7, rfl, ho, hg⟩
      have hS7 := hS6.call hg
      obtain ⟨A7, c7, rfl, hrows, -⟩ := ownsR_open ho
      obtain ⟨An, cn, rfl, hnd, -⟩ := ownsN_open (hS7.nodes 4 rfl)
      clear hg hS6 ho
      go_wp2_with fail
      refine (refPut_any An A7 cn c7 rkv.length to.length rkv d to w7 rfl hnd HD.out (by have := HRL.out; omega) rfl hrows (by have := HTL.out; omega)).mono ?_
      rintro e w8 ⟨v8, vto, rfl, hT⟩
      have hS8 := (hS7.join hT).lowerN 0 rfl
      simp only [List.cons_append, List.nil_append, List.set_cons_zero, List.set_cons_succ] at hS8
      have hS9 := hS8.refRot
      have HE9 := Lib.hid (HE4.out.more (x := rowsE w7.heap.size 29 vto to))
      have her9 : EdgesR (rowsE w7.heap.size 29 vto to :: rowsE w.heap.size 30 v4 to :: L) (putR rkv d vto) (putR (seedR E k) d to) := HER.out.more.more.put d to vto ⟨w7.heap.size, by simp⟩
      rw [← HSR.out] at her9
      have HER9 := Lib.hid her9
      clear hT hS7 hS8 hrows hnd her9
      go_wp2
      go_roundw
      case rel => exact ⟨k + 1, kv4, _, _, by go_num, by omega, HE9.out, HER9.out, hS9⟩
      case measure => simp [intOf]; omega
    · obtain rfl : k = m := by omega
      have q1 : ¬ ((k : Int) < (k : Int)) := by omega
      have hagr := seed_agree E k
      have hlow := seed_low E k
      have hlen := seed_len E k
      have hrlow := seedR_low E k
      have hrlen := seedR_len E k
      obtain ⟨ns, hns⟩ : ∃ ns, ns = seedK E k := ⟨_, rfl⟩
      obtain ⟨lr, hlr⟩ : ∃ lr, lr = seedR E k := ⟨_, rfl⟩
      rw [← hns] at hagr hlow hlen he
      rw [← hlr] at hagr hrlow hrlen her
      have HAGR := Lib.hid hagr
      have HLOW := Lib.hid hlow
      have HRLOW := Lib.hid hrlow
      have HLEN := Lib.hid (show ns.length ≤ 9 by omega)
      have HRLEN := Lib.hid (show lr.length ≤ 9 by omega)
      have HED := Lib.hid he
      have HER := Lib.hid her
      obtain ⟨rt, hrt⟩ : ∃ rt, rt = nodesL roots := ⟨_, rfl⟩
      have HRT := Lib.hid hrt
      have HRTL := Lib.hid (show rt.length ≤ 12 by rw [hrt]; exact nodesL_len _)
      have kn := fun (W : World) (hg : w.grownBy W none) => nodes_any A1 c1 roots W (HR.out.keep hg) HC1.out (by have := HR1.out; omega) HN1.out
      rw [← HRT.out] at kn
      have HKN := Lib.hid kn
      have hpr := pot_le HLOW.out rt []
      have HPR := Lib.hid (show pot ns (rt, []) ≤ 100000 by have := HLEN.out; have := HRTL.out; omega)
      clear hagr hlow hlen hrlow hrlen hns hlr he her hrt hlt kn hpr hsl hk1 hk2 hk3 hk4 hmn
      go_wp2_with fail
      refine (HKN.out _ hS.grown).mono ?_
      rintro e w2 ⟨v2, rfl, ho, hg⟩
      have hS2 := hS.call hg
      obtain ⟨A2, c2, rfl, hrows, -⟩ := ownsR_open ho
      clear hg hS ho
      go_wp2_with fail
      refine (from_any A2 c2 rt w2 hrows (by have := HRTL.out; omega)).mono ?_
      rintro e w3 ⟨v3, rfl, ho, hg⟩
      have hS3 := (hS2.madeR ho hg).sink2
      obtain ⟨A3, c3, rfl, hrows3, -⟩ := ownsR_open ho
      clear hg hS2 ho hrows
      go_wp2_with fail
      refine (awake_any _).mono ?_
      rintro e w4 ⟨rfl, hg⟩
      have hS4 := hS3.call hg
      have hrows4 := hrows3.keep hg
      clear hg hS3 hrows3
      go_wp2_with fail
      refine (HKN.out _ hS4.grown).mono ?_
      rintro e w5 ⟨v5, rfl, ho, hg⟩
      have hS5 := hS4.call hg
      have hrows5 := hrows4.keep hg
      obtain ⟨A5, c5, rfl, hrows, -⟩ := ownsR_open ho
      clear hg hS4 ho hrows4
      go_wp2_with fail
      refine (reach_any w _ G M kv ns _ A5 c5 rt hS5 HED.out.more.more HLOW.out.wide (by have := HLEN.out; omega) hrows (by have := HRTL.out; omega) HPR.out).mono ?_
      rintro e w6 ⟨v6, R, rfl, hpR, hri, hS6⟩
      have hrowsT := (hS6.rows 3 rfl)
      obtain ⟨-, hrows6, -⟩ := own_slice hrowsT
      obtain ⟨A6, c6, rfl, hrowsR, -⟩ := ownsR_open (hS6.rows 0 rfl)
      obtain ⟨An, cn, rfl, hnd, -⟩ := ownsN_open (hS6.nodes 4 rfl)
      have hro := ((((HER.out.more (x := nodesE w.heap.size (.slice An rkv.length cn) rkv)).more (x := rowsE w2.heap.size 29 (.slice A3 rt.length c3) rt)).more (x := mapE M kv)).more (x := gE G M)).more (x := rowsE w.heap.size 30 (.slice A6 R.length c6) R) |>.rows hS6
      have hkl : rkv.length = lr.length := HER.out.len
      have hnd2 := HAGR.out.rising.nodup
      have k7 := refReach_any An A3 cn c3 rkv.length rt.length rkv lr (reachB ns rt) rt w6 rfl hnd hro (by have := HRLEN.out; omega) HRLOW.out.wide rfl hrows6 (by have := HRTL.out; omega)
        (fun i hi => reach_root HAGR.out hnd2 i (by omega)) (fun k hk i hi => reach_edge HAGR.out hnd2 k (by omega) i (by omega))
      have HCE := Lib.hid (fun (cm : List Bool) (h1 : SndC (reachB ns rt) lr cm) (h2 : ClsC lr rt cm rkv.length rkv.length) => (hkl ▸ come_eq HAGR.out h1 (hkl ▸ h2) hpR hri : R = comeL lr cm rkv.length))
      have HRL := Lib.hid (show R.length ≤ 100000 by have := reach_len hpR hri; have := HLEN.out; omega)
      have HRR := Lib.hid hrowsR
      clear hrows hS5 hrows5 hpR hri hrowsT hrows6 hnd hro hkl hnd2 hrowsR
      go_wp2_with fail
      refine k7.mono ?_
      rintro e w7 ⟨v7, cm, rfl, h1, h2, h3, hT⟩
      have hRe := HCE.out cm h2 h3
      rw [← hRe] at hT
      have hRR := HRR.out.keep hT.grown
      have hS7 := hS6.call hT.grown
      obtain ⟨A7, c7, rfl, hrows7, -⟩ := ownsR_open (hT.rows 0 rfl)
      clear k7 h1 h2 h3 hRe hT hS6
      go_wp2_with fail
      refine (same_any A6 A7 c6 c7 R.length R w7 rfl hRR hrows7 HRL.out).mono ?_
      rintro e w8 ⟨rfl, hg⟩
      have hS8 := hS7.call hg
      clear hg hS7 hRR hrows7
      go_wp2
      go_ret
      exact ⟨rfl, hS8.grown⟩
end Go.Proofs.Ytnlnkojcbjaeeaa
