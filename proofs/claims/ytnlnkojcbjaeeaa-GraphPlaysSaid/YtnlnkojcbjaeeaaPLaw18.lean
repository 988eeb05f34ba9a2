/- Plain laws for a script's steps: what the document's list says of a sum; counts; bounds. -/
import Derived.Test.YtnlnkojcbjaeeaaRReach18
import Derived.Test.YtnlnkojcbjaeeaaRefs18
import Derived.Test.YtnlnkojcbjaeeaaRLaw18
namespace Go.Proofs.Ytnlnkojcbjaeeaa
set_option linter.unusedVariables false
set_option linter.unusedSimpArgs false
set_option linter.unusedSectionVars false
open Go.RowKit
set_option linter.unusedVariables false
def hasR {α : Type} (l : List (Dg × α)) (d : Dg) (z : Dg × α) : Bool := decide (findR l d < l.length) && decide ((l.getD (findR l d) z).1 = d)
set_option maxRecDepth 100000 in
set_option maxHeartbeats 1000000 in
theorem has_any (A : Option Addr) (c n : Nat) (kv : KV) (d : Dg) (w : World) (hn : kv.length = n) (hN : NdIn w A c kv) (hd : d.length = 32) (hl : kv.length ≤ 4096) :
    Calls Try.prog 26 #[.slice A n c, dgv d] w fun e w' => e = .returned (.bool (hasR kv d nd0)) ∧ w.grownBy w' none := by
  subst hn
  have HD := Lib.hid hd
  have HL := Lib.hid hl
  have HN := Lib.hid hN
  have HFD := Lib.hid (fun (W : World) (hg : w.grownBy W none) => find_any A c kv.length kv d W rfl (hN.keep hg) hd hl)
  have HRES := Lib.hid (show hasR kv d nd0 = (decide (findR kv d < kv.length) && decide ((kv.getD (findR kv d) nd0).1 = d)) from rfl)
  obtain ⟨k, hk⟩ : ∃ a, a = findR kv d := ⟨_, rfl⟩
  rw [← hk] at HFD HRES
  have hT := Own.start w
  clear hd hl hN hk
  go_enter Try.func26, Try.ntmps26
  go_wp2_with (refine wp_box (o := ⟨some 3, _, _, _, _, _⟩) rfl 29 (.tmp 1) rfl (c8 d) rfl ?_)
  intro w1 hr hg hz
  clear hz
  have hS := hT.new hr hg
  clear hr hg hT
  go_wp2_with (refine wp_load rfl 29 (.tmp 3) rfl Try.underlying29 rfl ⟨w.heap.size, 0, none⟩ rfl (c8 d) (info_a32 d HD.out) (row_all (hS.row 0 rfl)) ?_)
  refine (HFD.out _ hS.grown).mono ?_
  rintro e w2 ⟨rfl, hg⟩
  have hS2 := hS.call hg
  clear hg hS
  by_cases hlt : k < kv.length
  · have q1 : (k : Int) < (kv.length : Int) := by omega
    obtain ⟨b, off, rfl, hc, -⟩ := HN.out.sum k hlt
    have hx := (HN.out.k32.at_ k hlt).1
    have hre : hasR kv d nd0 = decide ((kv.getD k nd0).1 = d) := by rw [HRES.out, decide_eq_true hlt]; rfl
    obtain ⟨x, hxe⟩ : ∃ x, x = (kv.getD k nd0).1 := ⟨_, rfl⟩
    rw [← hxe] at hc hx hre
    have HX := Lib.hid hx
    have HC := Lib.hid hc
    have heq : ∀ W : World, (Op.equalIn 10000 29 (.agg (c8 x).toArray) (.agg (c8 d).toArray)).run Try.prog W = .ok (decide (x = d)) W := fun W => eq_a32 W x d HX.out HD.out
    obtain ⟨r, hr⟩ : ∃ r, decide (x = d) = r := ⟨_, rfl⟩
    rw [hr] at heq hre
    have HRE := Lib.hid hre
    clear hc hx hxe hre hr hlt
    go_wp2_with fail
    have hS3 := hS2.drew
    clear hS2
    refine wp_region_mixC (fun W => Own w W _) (fun _ => true) [(0, true), (1, true), (2, true), (3, true), (4, true), (5, true), (6, true), (7, true), (8, true), (9, true), (10, true), (11, true), (12, true), (13, false)] (by kernel_rfl) (by kernel_rfl) hS3 ?_
    iterate 9 (refine wpMix_step rfl (fun K hK => ?_); go_simp; (try go_bits); with_reducible refine hK _ ?_; clear hK K)
    refine wpMix_pureW (.agg (c8 x).toArray) rfl rfl (fun W hW => run_load_op 29 (.tmp 17) rfl Try.underlying29 rfl ⟨b, off + k * 33, none⟩ rfl _ (info_a32 x HX.out) (fun j u hu => hW.cell (HC.out j u hu))) ?_
    refine wpMix_pureW (.agg (c8 d).toArray) rfl rfl (fun W hW => run_load_op 29 (.tmp 3) rfl Try.underlying29 rfl ⟨w.heap.size, 0, none⟩ rfl _ (info_a32 d HD.out) (row_all (hW.row 0 rfl))) ?_
    iterate 2 (refine wpMix_step rfl (fun K hK => ?_); go_simp; (try go_bits); with_reducible refine hK _ ?_; clear hK K)
    refine wpMix_loudW _ rfl rfl ?_
    go_wp2_with fail
    refine wpMix_next' (fun _ => hS3) ?_
    unfold wpMix
    go_wp2
    go_ret
    exact ⟨by rw [HRE.out]; rfl, hS3.grown⟩
  · have q1 : decide ((k : Int) < (kv.length : Int)) = false := decide_eq_false (by omega)
    have q2 : ((k : Int) < (kv.length : Int)) = False := eq_false (by omega)
    have HRE := Lib.hid (show hasR kv d nd0 = false by rw [HRES.out, decide_eq_false hlt]; rfl)
    clear hlt
    go_wp2_with fail
    have hS3 := hS2.drew
    clear hS2
    refine wp_region_mixC (fun W => Own w W _) (fun _ => true) [(0, true), (1, true), (2, true), (3, true), (4, true), (5, true), (6, true), (7, true), (8, true), (9, true), (10, true), (11, true), (12, true), (13, false)] (by kernel_rfl) (by kernel_rfl) hS3 ?_
    iterate 5 (refine wpMix_step rfl (fun K hK => ?_); go_simp; (try go_bits); with_reducible refine hK _ ?_; clear hK K)
    iterate 7 (refine wpMix_skipK rfl rfl (fun K hK => ?_); go_simp; with_reducible refine hK _ ?_; clear hK K)
    iterate 1 (refine wpMix_step rfl (fun K hK => ?_); go_simp; (try go_bits); with_reducible refine hK _ ?_; clear hK K)
    refine wpMix_loudW _ rfl rfl ?_
    go_wp2_with fail
    refine wpMix_next' (fun _ => hS3) ?_
    unfold wpMix
    go_wp2
    go_ret
    exact ⟨by rw [HRE.out]; rfl, hS3.grown⟩
theorem countN_take (d : Dg) (ns : Nodes) (k : Nat) (h : k < ns.length) : countN d (ns.take (k + 1)) = countN d (ns.take k) + if d ∈ tn ns k then 1 else 0 := by
  rw [List.take_succ_eq_append_getElem h]
  unfold countN
  rw [List.countP_append]
  congr 1
  have : tn ns k = ns[k].2 := by simp [tn, h]
  rw [this]
  by_cases hd : d ∈ ns[k].2
  · rw [if_pos hd]; simp [hd]
  · rw [if_neg hd]; simp [hd]
set_option maxRecDepth 100000 in
set_option maxHeartbeats 1000000 in
theorem rrefs_any (A : Option Addr) (c n : Nat) (kv : KV) (ns : Nodes) (d : Dg) (w : World) (hn : kv.length = n) (hN : NdIn w A c kv) (hRo : RowsOf w kv ns) (hd : d.length = 32) (hl : kv.length ≤ 4096) (hlt : ∀ p ∈ ns, p.2.length ≤ 4096) :
    Calls Try.prog 29 #[.slice A n c, dgv d] w fun e w' => e = .returned (.int .i64 (countN d ns : Int)) ∧ w.grownBy w' none := by
  have hln : ns.length = n := by have := All2.len hRo; omega
  subst hn
  have HD := Lib.hid hd
  have HL := Lib.hid hl
  have HN := Lib.hid hN
  have HRO := Lib.hid hRo
  have HLN := Lib.hid hln
  have HLT := Lib.hid (show ∀ k, k < ns.length → (tn ns k).length ≤ 4096 from fun k hk => hlt _ (getD_mem hk _))
  have hT := Own.start w
  clear hd hl hN hRo hlt hln
  go_enter Try.func29, Try.ntmps29
  go_wp2_with (refine wp_box (o := ⟨some 3, _, _, _, _, _⟩) rfl 29 (.tmp 1) rfl (c8 d) rfl ?_)
  intro w1 hr hg hz
  clear hz
  have hS := hT.new hr hg
  clear hr hg hT
  go_wp2
  go_loopw [5, 6] (fun v i wr => ∃ k : Nat, k ≤ kv.length ∧ v = .int .i64 (countN d (ns.take k) : Int) ∧ i = .int .i64 k ∧ Own w wr [rowE w.heap.size 29 (c8 d)]) (fun _ i _ => kv.length - (intOf i).toNat)
  case atStart => exact ⟨0, by omega, rfl, rfl, hS⟩
  case round =>
    clear hS
    obtain ⟨k, hk, rfl, rfl, hS⟩ := hrel
    by_cases hlt : k < kv.length
    · have q1 : (k : Int) < (kv.length : Int) := by omega
      have q2 : (k : Int) < 4096 := by have := HL.out; omega
      obtain ⟨b, off, rfl, -, hto⟩ := HN.out.sum k hlt
      obtain ⟨-, At, ct, hv, hrw⟩ := HRO.out.at_ k hlt
      have hrw' : Rows32 w At ct (tn ns k) := hrw
      have hv' : (kv.getD k nd0).2 = .slice At (tn ns k).length ct := hv
      have htl := HLT.out k (by rw [HLN.out]; exact hlt)
      have hct := countN_take d ns k (by rw [HLN.out]; exact hlt)
      have hle := countN_le d (ns.take k)
      rw [hv'] at hto
      obtain ⟨to, htoe⟩ : ∃ to, to = tn ns k := ⟨_, rfl⟩
      rw [← htoe] at hto htl hrw' hct
      obtain ⟨cn, hcn⟩ : ∃ cn, cn = countN d (ns.take k) := ⟨_, rfl⟩
      rw [← hcn] at hct hle
      rw [← hcn]
      have q3 : (cn : Int) ≤ 4096 := by simp at hle; omega
      have HTOC := Lib.hid hto
      have HCT := Lib.hid hct
      have HIN := Lib.hid (fun (W : World) (hg : w.grownBy W none) => in_any At ct to.length to d W rfl (hrw'.keep hg) HD.out (by omega))
      obtain ⟨r, hr⟩ : ∃ r, decide (d ∈ to) = r := ⟨_, rfl⟩
      rw [hr] at HIN
      have HR0 := Lib.hid hr
      clear hv hrw hv' hto htoe htl hrw' hct hle hcn hr hlt
      go_wp2
      have hS1 := hS.drew
      clear hS
      refine wp_region_mixC (fun W => Own w W _) (fun _ => true) [(0, true), (1, true), (2, true), (3, true), (4, true), (5, true), (6, false)] (by kernel_rfl) (by kernel_rfl) hS1 ?_
      iterate 4 (refine wpMix_step rfl (fun K hK => ?_); go_simp; (try go_bits); with_reducible refine hK _ ?_; clear hK K)
      refine wpMix_pureW (.slice At to.length ct) rfl rfl (fun W hW => run_load_cell 35 (.tmp 16) rfl Try.underlying35 rfl ⟨b, off + k * 33 + 32, none⟩ rfl _ (hW.cell HTOC.out)) ?_
      refine wpMix_pureW (.agg (c8 d).toArray) rfl rfl (fun W hW => run_load_op 29 (.tmp 3) rfl Try.underlying29 rfl ⟨w.heap.size, 0, none⟩ rfl _ (info_a32 d HD.out) (row_all (hW.row 0 rfl))) ?_
      refine wpMix_loudW _ rfl rfl ?_
      go_wp2_with fail
      refine (HIN.out _ hS1.grown).mono ?_
      rintro e w3 ⟨rfl, hg⟩
      have hS3 := hS1.call hg
      clear hg hS1
      go_wp2_with fail
      refine wpMix_next' (fun _ => hS3) ?_
      unfold wpMix
      cases r with
      | true =>
        have HC2 := Lib.hid (show countN d (ns.take (k + 1)) = cn + 1 by rw [HCT.out, if_pos (of_decide_eq_true HR0.out)])
        go_wp2
        go_roundw
        case rel => exact ⟨k + 1, by omega, by rw [HC2.out]; go_num, by go_num, hS3⟩
        case measure => simp [intOf] <;> omega
      | false =>
        have HC2 := Lib.hid (show countN d (ns.take (k + 1)) = cn by rw [HCT.out, if_neg (of_decide_eq_false HR0.out)]; rfl)
        go_wp2
        go_roundw
        case rel => exact ⟨k + 1, by omega, by rw [HC2.out], by go_num, hS3⟩
        case measure => simp [intOf] <;> omega
    · obtain rfl : k = kv.length := by omega
      have q1 : ¬ ((kv.length : Int) < (kv.length : Int)) := by omega
      have HE := Lib.hid (show ns.take kv.length = ns by rw [← HLN.out, List.take_length])
      go_wp2
      go_ret
      exact ⟨by rw [HE.out]; rfl, hS.grown⟩
theorem filt_take (kv : KV) (d : Dg) (k : Nat) (h : k < kv.length) : delR (kv.take (k + 1)) d = delR (kv.take k) d ++ (if (kv.getD k nd0).1 = d then [] else [kv.getD k nd0]) := by
  have := drop_filt kv d 0 k (by omega) h
  simpa [delR] using this
set_option maxRecDepth 100000 in
set_option maxHeartbeats 4000000 in
theorem refDrop_any (A : Option Addr) (c n : Nat) (kv : KV) (d : Dg) (w : World) (hn : kv.length = n) (hN : NdIn w A c kv) (hd : d.length = 32) (hl : kv.length ≤ 4096) :
    Calls Try.prog 35 #[.slice A n c, dgv d] w fun e w' => ∃ v, e = .returned v ∧ Own w w' [nodesE w.heap.size v (delR kv d)] := by
  subst hn
  have HD := Lib.hid hd
  have HL := Lib.hid hl
  have HN := Lib.hid hN
  have hT := Own.start w
  clear hd hl hN
  go_enter Try.func35, Try.ntmps35
  go_wp2_with (refine wp_box (o := ⟨some 3, _, _, _, _, _⟩) rfl 29 (.tmp 1) rfl (c8 d) rfl ?_)
  intro w1 hr hg hz
  clear hz
  have hS := (hT.new hr hg).nilN w.heap.size
  clear hr hg hT
  go_wp2
  go_loopw [5, 6] (fun v i wr => ∃ k : Nat, k ≤ kv.length ∧ i = .int .i64 k ∧ Own w wr [nodesE w.heap.size v (delR (kv.take k) d), rowE w.heap.size 29 (c8 d)]) (fun _ i _ => kv.length - (intOf i).toNat)
  case atStart => exact ⟨0, by omega, rfl, hS⟩
  case round =>
    clear hS
    obtain ⟨m, hm, rfl, hS⟩ := hrel
    by_cases hlt : m < kv.length
    · have q3 : (m : Int) < (kv.length : Int) := by omega
      have q2 : (m : Int) < 4096 := by have := HL.out; omega
      have hst := filt_take kv d m hlt
      obtain ⟨b, off, rfl, hc⟩ := HN.out.at_ m hlt
      have hc2 : ∀ j u, (c8 (kv.getD m nd0).1)[j]? = some u → w.cell? ((⟨b, off + m * 33, none⟩ : Addr).add j) = some u := fun j u hu => hc j u (by unfold ndC; rw [List.getElem?_append_left (List.getElem?_eq_some_iff.1 hu).1]; exact hu)
      have hx := HN.out.k32.at_ m hlt
      obtain ⟨p, hpe⟩ : ∃ p, p = kv.getD m nd0 := ⟨_, rfl⟩
      rw [← hpe] at hc hc2 hx hst
      have hcl : (delR (kv.take m) d).length ≤ 1000000 := by
        have h1 : (delR (kv.take m) d).length ≤ (kv.take m).length := List.length_filter_le _ _
        simp only [List.length_take] at h1; have := HL.out; omega
      obtain ⟨cur, hcur⟩ : ∃ cur, cur = delR (kv.take m) d := ⟨_, rfl⟩
      rw [← hcur] at hS hst hcl
      have HTL := Lib.hid hcl
      have HST := Lib.hid hst
      have HX := Lib.hid hx
      have HC := Lib.hid hc
      have HC2 := Lib.hid hc2
      have heq : ∀ W : World, (Op.equalIn 10000 29 (.agg (c8 p.1).toArray) (.agg (c8 d).toArray)).run Try.prog W = .ok (decide (p.1 = d)) W := fun W => eq_a32 W p.1 d HX.out.1 HD.out
      obtain ⟨r, hr⟩ : ∃ r, decide (p.1 = d) = r := ⟨_, rfl⟩
      have HR0 := Lib.hid hr
      rw [hr] at heq
      clear hc hc2 hx hst hpe hcur hlt hr hcl
      go_wp2
      have hS1 := hS.drew
      clear hS
      refine wp_region_mixC (fun W => Own w W _) (fun _ => true) [(0, true), (1, true), (2, true), (3, true), (4, true), (5, true), (6, true)] (by kernel_rfl) (by kernel_rfl) hS1 ?_
      iterate 4 (refine wpMix_step rfl (fun K hK => ?_); go_simp; (try go_bits); with_reducible refine hK _ ?_; clear hK K)
      refine wpMix_pureW (.agg (c8 p.1).toArray) rfl rfl (fun W hW => run_load_op 29 (.tmp 16) rfl Try.underlying29 rfl ⟨b, off + m * 33, none⟩ rfl _ (info_a32 p.1 HX.out.1) (fun j u hu => hW.cell (HC2.out j u hu))) ?_
      refine wpMix_pureW (.agg (c8 d).toArray) rfl rfl (fun W hW => run_load_op 29 (.tmp 3) rfl Try.underlying29 rfl ⟨w.heap.size, 0, none⟩ rfl _ (info_a32 d HD.out) (row_all (hW.row 1 rfl))) ?_
      iterate 1 (refine wpMix_step rfl (fun K hK => ?_); go_simp; (try go_bits); with_reducible refine hK _ ?_; clear hK K)
      unfold wpMix
      cases r with
      | true =>
        have HS2 := Lib.hid (show delR (kv.take (m + 1)) d = cur by rw [HST.out, if_pos (of_decide_eq_true HR0.out), List.append_nil])
        go_wp2
        go_roundw
        case rel => exact ⟨m + 1, by omega, by go_num, by rw [HS2.out]; exact hS1⟩
        case measure => simp [intOf]; omega
      | false =>
        have HS2 := Lib.hid (show delR (kv.take (m + 1)) d = cur ++ [p] by rw [HST.out, if_neg (of_decide_eq_false HR0.out)])
        have HC3 := Lib.hid (fun j u hu => hS1.cell (HC.out j u hu))
        go_wp2_with (first | (refine wp_load rfl 64 (.tmp 23) rfl Try.underlying64 rfl ⟨b, off + m * 33, none⟩ rfl (ndC p) (info_nd HX.out.1) HC3.out ?_) | (refine wp_built1 rfl 26 (.tmp 24) rfl 64 Try.underlying26 33 info_zn (by omega) (by omega) (ndC p) (ndC_len HX.out.1) rfl ?_))
        intro w7 hr hg
        have hS8 := hS1.new hr hg
        clear hS1 hr hg HC3
        go_wp2_with (refine wp_appN rfl (.tmp 20) (.tmp 25) rfl cur (cur ++ [p]) rfl (hS8.nodes 1 rfl) _ p rfl HX.out.1 HX.out.2 (hS8.row 0 rfl) rfl HTL.out hS8.size ?_)
        intro v' w8 ho hg hv
        have hS9 := (hS8.appendN 1 rfl ho hg (by first | exact hv | simpa using hv)).tail
        clear hS8 ho hg hv
        go_wp2
        go_roundw
        case rel => exact ⟨m + 1, by omega, by go_num, by rw [HS2.out]; exact hS9⟩
        case measure => simp [intOf] <;> omega
    · obtain rfl : m = kv.length := by omega
      have q3 : ¬ ((kv.length : Int) < (kv.length : Int)) := by omega
      rw [List.take_length] at hS
      clear hlt
      go_wp2
      go_ret
      exact ⟨_, rfl, hS.sub ((List.nil_sublist _).cons_cons _)⟩
theorem find_sorted {lr : Nodes} (h32 : L32 (keysR lr)) (hr : Rising (keysR lr)) {d : Dg} (hd : d.length = 32) :
    edgesOf lr d = if findR lr d < lr.length ∧ xn lr (findR lr d) = d then some (tn lr (findR lr d)) else none := by
  have hdf := drop_find lr d h32 hd hr
  have htf := take_find lr d
  generalize hk : findR lr d = k at hdf htf ⊢
  have e : edgesOf lr d = edgesOf (lr.take k ++ lr.drop k) d := by rw [List.take_append_drop]
  rw [e, edgesOf_app, edgesOf_none_of (fun p hp => bel_ne (htf p hp))]
  show edgesOf (lr.drop k) d = _
  by_cases hlt : k < lr.length
  · have e2 : lr.drop k = lr[k] :: lr.drop (k + 1) := List.drop_eq_getElem_cons hlt
    have ex : xn lr k = lr[k].1 := by simp [xn, hlt]
    have et : tn lr k = lr[k].2 := by simp [tn, hlt]
    rw [e2, edgesOf_cons, ex, et]
    by_cases hx : lr[k].1 = d
    · rw [if_pos hx, if_pos ⟨hlt, hx⟩]
    · rw [if_neg hx, if_neg (fun h => hx h.2)]
      have h1 : cmpL d lr[k].1 < 0 := hdf lr[k] (List.mem_filter.2 ⟨by rw [e2]; exact List.mem_cons_self, by simpa using hx⟩)
      refine edgesOf_none_of fun p hp hpd => ?_
      have hrr : List.Pairwise (fun x y : Dg × List Dg => cmpL x.1 y.1 < 0) (lr.drop k) := by
        unfold Rising keysR at hr
        rw [List.pairwise_map] at hr
        exact hr.sublist (List.drop_sublist _ _)
      rw [e2] at hrr
      have h2 := (List.pairwise_cons.1 hrr).1 p hp
      rw [hpd] at h2
      have := cmpL_anti d lr[k].1
      omega
  · rw [List.drop_of_length_le (by omega), if_neg (fun h => hlt h.1)]; rfl
section
variable {ns lr : Nodes} {kv rkv : KV} {L : List Ent} {d : Dg}
theorem has_eq (ha : Agree ns lr) (he : EdgesR L rkv lr) (hd : d.length = 32) : hasR rkv d nd0 = (edgesOf ns d).isSome := by
  have hf : findR rkv d = findR lr d := findR_map he (fun p n hp => hp.1) d
  have hl : rkv.length = lr.length := All2.len he
  rw [← ha.eq, find_sorted ha.l32 ha.rising hd]
  unfold hasR
  rw [hf, hl]
  by_cases hlt : findR lr d < lr.length
  · have hx : (rkv.getD (findR lr d) nd0).1 = xn lr (findR lr d) := (All2.get he nd0 n0 _ (by omega)).1
    rw [hx, decide_eq_true hlt, Bool.true_and]
    by_cases hxd : xn lr (findR lr d) = d
    · rw [if_pos ⟨hlt, hxd⟩, decide_eq_true hxd]; rfl
    · rw [if_neg (fun h => hxd h.2), decide_eq_false hxd]; rfl
  · rw [if_neg (fun h => hlt h.1), decide_eq_false hlt]; rfl
theorem find_eq (ha : Agree ns lr) (he : EdgesR L rkv lr) (hd : d.length = 32) {l : List Dg} (hl : edgesOf ns d = some l) : findR rkv d < rkv.length ∧ tn lr (findR rkv d) = l := by
  have hf : findR rkv d = findR lr d := findR_map he (fun p n hp => hp.1) d
  have hln : rkv.length = lr.length := All2.len he
  rw [← ha.eq, find_sorted ha.l32 ha.rising hd] at hl
  rw [hf, hln]
  by_cases hc : findR lr d < lr.length ∧ xn lr (findR lr d) = d
  · rw [if_pos hc] at hl
    exact ⟨hc.1, Option.some.inj hl⟩
  · rw [if_neg hc] at hl; cases hl
theorem Agree.del (h : Agree ns lr) (d : Dg) : Agree (delN ns d) (delR lr d) := by
  refine ⟨fun x => ?_, ?_, ?_⟩
  · unfold delN delR
    by_cases hx : x = d
    · subst hx; rw [edgesOf_filt_self, edgesOf_filt_self]
    · rw [edgesOf_filt _ _ _ hx, edgesOf_filt _ _ _ hx, h.eq]
  · exact h.rising.sublist (List.filter_sublist.map _)
  · exact fun x hx => h.l32 x ((List.filter_sublist.map _).subset hx)
theorem mem_edges : ∀ {l : Nodes}, (keysR l).Nodup → ∀ p, p ∈ l ↔ edgesOf l p.1 = some p.2
  | [], _, p => by simp [edgesOf_nil]
  | q :: l, h, p => by
    obtain ⟨h1, h2⟩ := List.nodup_cons.1 h
    rw [edgesOf_cons, List.mem_cons]
    by_cases e : q.1 = p.1
    · rw [if_pos e]
      constructor
      · rintro (rfl | hp)
        · rfl
        · exact absurd (show q.1 ∈ keysR l by rw [e]; exact List.mem_map_of_mem hp) h1
      · intro hq
        exact .inl (Prod.ext e.symm (Option.some.inj hq).symm)
    · rw [if_neg e, ← mem_edges h2 p]
      constructor
      · rintro (rfl | hp)
        · exact absurd rfl e
        · exact hp
      · exact .inr
theorem nodup_of {l : Nodes} (h : (keysR l).Nodup) : l.Nodup := (List.pairwise_map.1 h).imp fun hh e => hh (congrArg _ e)
theorem Agree.perm (h : Agree ns lr) (hn : (keysR ns).Nodup) : ns.Perm lr := by
  have h2 := h.rising.nodup
  refine (List.perm_ext_iff_of_nodup (nodup_of hn) (nodup_of h2)).2 fun p => ?_
  rw [mem_edges hn p, mem_edges h2 p, h.eq]
theorem keys_kv (he : EdgesIn L kv ns) : kv.map (·.1) = keysR ns := by
  induction he with
  | nil => rfl
  | cons hp _ ih => simp only [keysR, List.map_cons] at ih ⊢; rw [hp.1, ih]
theorem nodes_eq (h : Agree ns lr) (he : EdgesIn L kv ns) (hk : (kv.map (·.1)).Nodup) {R : List Dg} (hp : R.Perm (kv.map (·.1))) (hR : Rising R) : R = keysR lr := by
  rw [keys_kv he] at hp hk
  have h1 : (keysR ns).Perm (keysR lr) := (h.perm hk).map _
  exact (rising_eq h.l32 h.rising hR (hp.trans h1).symm).symm
theorem count_eq (h : Agree ns lr) (he : EdgesIn L kv ns) (hk : (kv.map (·.1)).Nodup) (d : Dg) : countN d ns = countN d lr := by
  rw [keys_kv he] at hk
  exact countN_perm (h.perm hk)
theorem look_eq (h : Agree ns lr) (m : Mk) : lookM lr m = lookM ns m := by
  obtain ⟨g, b⟩ := m
  cases g with
  | nil => rfl
  | cons d g => simp only [lookM, h.eq]
end
theorem look_black_len (ns : Nodes) (m : Mk) : (lookM ns m).2.length + pot ns (lookM ns m) ≤ m.2.length + pot ns m := by
  obtain ⟨g, b⟩ := m
  cases g with
  | nil => exact Nat.le_refl _
  | cons d g =>
    have hp := pot_look ns d g b
    have hb : (lookM ns (d :: g, b)).2.length ≤ b.length + 1 := by
      by_cases hd : d ∈ b
      · rw [lookM_old ns d g b hd]; show b.length ≤ _; omega
      · cases he : edgesOf ns d with
        | none => rw [lookM_none ns d g b he]; show b.length ≤ _; omega
        | some l => rw [lookM_new ns d g b l he hd]; simp
    show _ ≤ b.length + _
    omega
theorem step_black_len (ns : Nodes) : ∀ (n : Nat) (m : Mk), (stepM ns n m).2.length + pot ns (stepM ns n m) ≤ m.2.length + pot ns m
  | 0, m => Nat.le_refl _
  | n + 1, m => Nat.le_trans (step_black_len ns n (lookM ns m)) (look_black_len ns m)
theorem step_gray_le (ns : Nodes) (n : Nat) (m : Mk) : (stepM ns n m).1.length ≤ pot ns m := Nat.le_trans (pot_len ns _ _) (pot_step ns n m)
theorem delN_len (ns : Nodes) (d : Dg) : (delN ns d).length ≤ ns.length := List.length_filter_le _ _
theorem delR_len {α : Type} (l : List (Dg × α)) (d : Dg) : (delR l d).length ≤ l.length := List.length_filter_le _ _
theorem Low.filt {ns : Nodes} (h : Low ns) (f : Dg × List Dg → Bool) : Low (ns.filter f) := fun p hp => h p (List.mem_filter.1 hp).1
theorem step_go (ns : Nodes) (n : Nat) (m : Mk) : stepM ns (n + 1) m = stepM ns n (lookM ns m) := rfl
end Go.Proofs.Ytnlnkojcbjaeeaa
