/- The document's Put, Drop, Has, Refs. -/
import Derived.Test.YtnlnkojcbjaeeaaFind18
namespace Go.Proofs.Ytnlnkojcbjaeeaa
set_option linter.unusedVariables false
set_option linter.unusedSimpArgs false
set_option linter.unusedSectionVars false
open Go.RowKit
set_option linter.unusedVariables false
theorem thirtytwo {α : Type} {l : List α} (h : l.length = 32) : ∃ x0 x1 x2 x3 x4 x5 x6 x7 x8 x9 x10 x11 x12 x13 x14 x15 x16 x17 x18 x19 x20 x21 x22 x23 x24 x25 x26 x27 x28 x29 x30 x31, l = [x0, x1, x2, x3, x4, x5, x6, x7, x8, x9, x10, x11, x12, x13, x14, x15, x16, x17, x18, x19, x20, x21, x22, x23, x24, x25, x26, x27, x28, x29, x30, x31] := by
  match l, h with
  | [x0, x1, x2, x3, x4, x5, x6, x7, x8, x9, x10, x11, x12, x13, x14, x15, x16, x17, x18, x19, x20, x21, x22, x23, x24, x25, x26, x27, x28, x29, x30, x31], _ => exact ⟨x0,x1,x2,x3,x4,x5,x6,x7,x8,x9,x10,x11,x12,x13,x14,x15,x16,x17,x18,x19,x20,x21,x22,x23,x24,x25,x26,x27,x28,x29,x30,x31, rfl⟩
set_option maxRecDepth 100000 in
theorem built_nd_at (x0 x1 x2 x3 x4 x5 x6 x7 x8 x9 x10 x11 x12 x13 x14 x15 x16 x17 x18 x19 x20 x21 x22 x23 x24 x25 x26 x27 x28 x29 x30 x31 : Value) (A : Option Addr) (n c : Nat) : Try.prog.built 64 [(0, .agg #[x0, x1, x2, x3, x4, x5, x6, x7, x8, x9, x10, x11, x12, x13, x14, x15, x16, x17, x18, x19, x20, x21, x22, x23, x24, x25, x26, x27, x28, x29, x30, x31]), (1, .slice A n c)] = some #[x0, x1, x2, x3, x4, x5, x6, x7, x8, x9, x10, x11, x12, x13, x14, x15, x16, x17, x18, x19, x20, x21, x22, x23, x24, x25, x26, x27, x28, x29, x30, x31, .slice A n c] := by kernel_rfl
theorem c8_32 {d : Dg} (h : d.length = 32) : (c8 d).length = 32 := by rw [c8_length, h]
theorem built_nd (d : Dg) (A : Option Addr) (n c : Nat) (h : d.length = 32) : Try.prog.built 64 [(0, .agg (c8 d).toArray), (1, .slice A n c)] = some (ndC (d, .slice A n c)).toArray := by
  unfold ndC
  have h2 := c8_32 h
  generalize c8 d = l at h2
  obtain ⟨x0, x1, x2, x3, x4, x5, x6, x7, x8, x9, x10, x11, x12, x13, x14, x15, x16, x17, x18, x19, x20, x21, x22, x23, x24, x25, x26, x27, x28, x29, x30, x31, rfl⟩ := thirtytwo h2
  exact built_nd_at x0 x1 x2 x3 x4 x5 x6 x7 x8 x9 x10 x11 x12 x13 x14 x15 x16 x17 x18 x19 x20 x21 x22 x23 x24 x25 x26 x27 x28 x29 x30 x31 A n c
theorem take_snocN (kv : KV) (k : Nat) (h : k < kv.length) : kv.take (k + 1) = kv.take k ++ [kv.getD k nd0] := by
  rw [List.take_succ_eq_append_getElem h]; simp [h]
theorem drop_filt (kv : KV) (d : Dg) (a k : Nat) (ha : a ≤ k) (h : k < kv.length) : ((kv.take (k + 1)).drop a).filter (fun p => p.1 != d) = ((kv.take k).drop a).filter (fun p => p.1 != d) ++ (if (kv.getD k nd0).1 = d then [] else [kv.getD k nd0]) := by
  rw [take_snocN kv k h, List.drop_append_of_le_length (by simp; omega), List.filter_append]
  congr 1
  generalize kv.getD k nd0 = p
  by_cases hd : p.1 = d
  · rw [if_pos hd, List.filter_cons_of_neg (by simpa using hd)]; rfl
  · rw [if_neg hd, List.filter_cons_of_pos (by simpa using hd)]; rfl
set_option maxRecDepth 100000 in
set_option maxHeartbeats 4000000 in
theorem refPut_any (A A1 : Option Addr) (c c1 n n1 : Nat) (kv : KV) (d : Dg) (to : List Dg) (w : World) (hn : kv.length = n) (hN : NdIn w A c kv) (hd : d.length = 32) (hl : kv.length ≤ 4096) (hn1 : to.length = n1) (hto : Rows32 w A1 c1 to) (hl1 : to.length ≤ 4096) :
    Calls Try.prog 12 #[.slice A n c, dgv d, .slice A1 n1 c1] w fun e w' => ∃ v vto, e = .returned v ∧ Own w w' [nodesE w.heap.size v (putR kv d vto), rowsE w.heap.size 29 vto to] := by
  subst hn
  subst hn1
  have HD := Lib.hid hd
  have HL := Lib.hid hl
  have HN := Lib.hid hN
  have HTO := Lib.hid hto
  have HL1 := Lib.hid hl1
  have HFD := Lib.hid (fun (W : World) (hg : w.grownBy W none) => find_any A c kv.length kv d W rfl (hN.keep hg) hd hl)
  have HPR := Lib.hid (show ∀ v, putR kv d v = kv.take (findR kv d) ++ [(d, v)] ++ (kv.drop (findR kv d)).filter (fun p => p.1 != d) from fun v => rfl)
  obtain ⟨at_, hat⟩ : ∃ a, a = findR kv d := ⟨_, rfl⟩
  have HAL := Lib.hid (show at_ ≤ kv.length by rw [hat]; exact findR_le _ _)
  rw [← hat] at HFD HPR
  have hT := Own.start w
  clear hd hl hN hto hl1 hat
  go_enter Try.func12, Try.ntmps12
  go_wp2_with (refine wp_box (o := ⟨some 4, _, _, _, _, _⟩) rfl 29 (.tmp 1) rfl (c8 d) rfl ?_)
  intro w1 hr hg hz
  clear hz
  have hS := hT.new hr hg
  clear hr hg hT
  go_wp2_with (refine wp_load rfl 29 (.tmp 4) rfl Try.underlying29 rfl ⟨w.heap.size, 0, none⟩ rfl (c8 d) (info_a32 d HD.out) (row_all (hS.row 0 rfl)) ?_)
  refine (HFD.out _ hS.grown).mono ?_
  rintro e w2 ⟨rfl, hg⟩
  have hS2 := (hS.call hg).nilN w.heap.size
  clear hg hS
  go_wp2
  go_loopw [8, 9] (fun v i wr => ∃ k : Nat, k ≤ at_ ∧ i = .int .i64 k ∧ Own w wr [nodesE w.heap.size v (kv.take k), rowE w.heap.size 29 (c8 d)]) (fun _ i _ => at_ - (intOf i).toNat)
  case atStart => exact ⟨0, by omega, rfl, hS2⟩
  case round =>
    clear hS2
    obtain ⟨k, hk, rfl, hS⟩ := hrel
    by_cases hlt : k < at_
    · have q1 : (k : Int) < (at_ : Int) := by omega
      have q3 : (k : Int) < (kv.length : Int) := by have := HAL.out; omega
      have hkl : k < kv.length := by have := HAL.out; omega
      have q2 : (k : Int) < 4096 := by have := HL.out; omega
      obtain ⟨b, off, rfl, hc⟩ := (HN.out.keep hS.grown).at_ k hkl
      have hx := (HN.out.k32.at_ k hkl)
      have hst := take_snocN kv k hkl
      obtain ⟨p, hpe⟩ : ∃ p, p = kv.getD k nd0 := ⟨_, rfl⟩
      rw [← hpe] at hc hx hst
      have HX := Lib.hid hx
      have HC := Lib.hid hc
      have HST := Lib.hid hst
      have HTL := Lib.hid (show (kv.take k).length ≤ 1000000 by simp; have := HL.out; omega)
      clear hc hx hst hpe hkl hlt
      go_wp2_with (first | (refine wp_load rfl 64 (.tmp 22) rfl Try.underlying64 rfl ⟨b, off + k * 33, none⟩ rfl (ndC p) (info_nd HX.out.1) HC.out ?_) | (refine wp_built1 rfl 26 (.tmp 23) rfl 64 Try.underlying26 33 info_zn (by omega) (by omega) (ndC p) (ndC_len HX.out.1) rfl ?_))
      intro w7 hr hg
      have hS8 := hS.new hr hg
      clear hS hr hg
      go_wp2_with (refine wp_appN rfl (.tmp 19) (.tmp 24) rfl (kv.take k) (kv.take (k + 1)) rfl (hS8.nodes 1 rfl) wr.heap.size p rfl HX.out.1 HX.out.2 (hS8.row 0 rfl) HST.out HTL.out hS8.size ?_)
      intro v' w8 ho hg hv
      have hS9 := (hS8.appendN 1 rfl ho hg (by simpa using hv)).tail
      clear hS8 ho hg hv
      go_wp2
      go_roundw
      case rel => exact ⟨k + 1, by omega, by go_num, hS9⟩
      case measure => simp [intOf] <;> omega
    · obtain rfl : k = at_ := by omega
      have q1 : ¬ ((k : Int) < (k : Int)) := by omega
      have HCP := Lib.hid (fun (W : World) (hg : w.grownBy W none) => copied_any A1 c1 to.length to W rfl (HTO.out.keep hg) (by have := HL1.out; omega))
      have hS0 := hS.swap
      obtain ⟨Av, cv, rfl, -, -⟩ := ownsN_at (m := k) (hS.nodes 0 rfl) (by simp; have := HAL.out; omega)
      clear hlt hS
      go_wp2
      have hS1 := hS0.drew
      clear hS0
      refine wp_region_mixC (fun W => Own w W [rowE w.heap.size 29 (c8 d)]) (fun _ => true) [(0, true), (1, true), (2, true), (3, false), (4, true), (5, false), (6, false), (7, false)] (by kernel_rfl) (by kernel_rfl) (hS1.sub ((List.nil_sublist _).cons_cons _)) ?_
      iterate 1 (refine wpMix_step rfl (fun K hK => ?_); go_simp; (try go_bits); with_reducible refine hK _ ?_; clear hK K)
      refine wpMix_pureW (.agg (c8 d).toArray) rfl rfl (fun W hW => run_load_op 29 (.tmp 4) rfl Try.underlying29 rfl ⟨w.heap.size, 0, none⟩ rfl _ (info_a32 d HD.out) (row_all (hW.row 0 rfl))) ?_
      iterate 1 (refine wpMix_step rfl (fun K hK => ?_); go_simp; (try go_bits); with_reducible refine hK _ ?_; clear hK K)
      refine wpMix_loudW _ rfl rfl ?_
      go_wp2_with fail
      refine (HCP.out _ hS1.grown).mono ?_
      rintro e w8 ⟨vto, rfl, ho, hg⟩
      have hS2 := (hS1.madeR ho hg).lower 0 rfl
      simp only [List.set_cons_zero] at hS2
      obtain ⟨At, ct, rfl, -, -⟩ := ownsR_open ho
      clear ho hg hS1 HCP
      go_wp2_with fail
      refine wpMix_next' (fun _ => hS2.sub (List.singleton_sublist.2 (by simp))) ?_
      refine wpMix_pureW (.agg (ndC (d, .slice At to.length ct)).toArray) rfl rfl (fun W hW => run_build_op 64 #[(0, .tmp 27), (1, .tmp 29)] rfl [(0, .agg (c8 d).toArray), (1, .slice At to.length ct)] rfl _ (built_nd d At to.length ct HD.out)) ?_
      refine wpMix_loudW _ rfl rfl ?_
      go_wp2_with (refine wp_built1 rfl 26 (.tmp 30) rfl 64 Try.underlying26 33 info_zn (by omega) (by omega) (ndC (d, .slice At to.length ct)) (ndC_len HD.out) rfl ?_)
      intro w9 hr hg
      have hS3 := hS2.new hr hg
      clear hS2 hr hg
      go_wp2_with fail
      refine wpMix_next' (fun _ => hS3.sub (List.singleton_sublist.2 (by simp))) ?_
      refine wpMix_loudW _ rfl rfl ?_
      refine wp_appN rfl (.tmp 26) (.tmp 31) rfl (kv.take k) (kv.take k ++ [(d, .slice At to.length ct)]) rfl (hS3.nodes 3 rfl) w8.heap.size (d, .slice At to.length ct) rfl HD.out ⟨_, _, _, rfl⟩ (hS3.row 0 rfl) rfl (by simp; have := HL.out; omega) hS3.size ?_
      intro v' w10 ho hg hv
      have hS4 := (hS3.appendN 3 rfl ho hg (by first | exact hv | simpa using hv)).tail
      simp only [List.set_cons_zero, List.set_cons_succ] at hS4
      obtain ⟨Av', cv', rfl, -, -⟩ := ownsN_at (m := k + 1) ho (by simp; have := HAL.out; omega)
      clear hS3 ho hg hv
      go_wp2_with fail
      refine wpMix_next' (fun _ => hS4.sub (List.singleton_sublist.2 (by simp))) ?_
      refine wpMix_loudW _ rfl rfl ?_
      go_wp2_with fail
      refine wpMix_next' (fun _ => hS4.sub (List.singleton_sublist.2 (by simp))) ?_
      unfold wpMix
      have hS5 := hS4.perm (L' := [nodesE w.heap.size (.slice Av' (k + 1) cv') (kv.take k ++ [(d, .slice At to.length ct)]), rowE w.heap.size 29 (c8 d), rowsE w.heap.size 29 (.slice At to.length ct) to]) (by
        exact ((List.Perm.swap _ _ _).trans ((List.Perm.swap _ _ _).cons _)).trans ((List.Perm.swap _ _ _)))
      have HPR2 := Lib.hid (HPR.out (.slice At to.length ct))
      have HPF := Lib.hid (fun (i : Nat) (h1 : k ≤ i) (h2 : i < kv.length) => drop_filt kv d k i h1 h2)
      clear hS4
      go_wp2
      go_loopw [8, 10] (fun v i wr => ∃ m : Nat, k ≤ m ∧ m ≤ kv.length ∧ i = .int .i64 m ∧ Own w wr [nodesE w.heap.size v (kv.take k ++ [(d, .slice At to.length ct)] ++ ((kv.take m).drop k).filter (fun p => p.1 != d)), rowE w.heap.size 29 (c8 d), rowsE w.heap.size 29 (.slice At to.length ct) to]) (fun _ i _ => kv.length - (intOf i).toNat)
      case atStart => exact ⟨k, by omega, HAL.out, rfl, by rw [show (kv.take k).drop k = [] from by rw [List.drop_take, Nat.sub_self]; rfl, List.filter_nil, List.append_nil]; exact hS5⟩
      case round =>
        clear hS5
        obtain ⟨m, hkm, hm, rfl, hS⟩ := hrel
        by_cases hlt : m < kv.length
        · have q3 : (m : Int) < (kv.length : Int) := by omega
          have q2 : (m : Int) < 4096 := by have := HL.out; omega
          have hst := HPF.out m hkm hlt
          obtain ⟨b, off, rfl, hc⟩ := HN.out.at_ m hlt
          have hc2 : ∀ j u, (c8 (kv.getD m nd0).1)[j]? = some u → w.cell? ((⟨b, off + m * 33, none⟩ : Addr).add j) = some u := fun j u hu => hc j u (by unfold ndC; rw [List.getElem?_append_left (List.getElem?_eq_some_iff.1 hu).1]; exact hu)
          have hx := HN.out.k32.at_ m hlt
          obtain ⟨p, hpe⟩ : ∃ p, p = kv.getD m nd0 := ⟨_, rfl⟩
          rw [← hpe] at hc hc2 hx hst
          obtain ⟨cur, hcur⟩ : ∃ cur, cur = kv.take k ++ [(d, .slice At to.length ct)] ++ ((kv.take m).drop k).filter (fun p => p.1 != d) := ⟨_, rfl⟩
          have HTL := Lib.hid (show cur.length ≤ 1000000 by
            have h1 : (((kv.take m).drop k).filter (fun p => p.1 != d)).length ≤ ((kv.take m).drop k).length := List.length_filter_le _ _
            rw [hcur]; simp only [List.length_append, List.length_take, List.length_drop, List.length_singleton] at h1 ⊢; have := HL.out; omega)
          have HST := Lib.hid (show kv.take k ++ [(d, .slice At to.length ct)] ++ ((kv.take (m + 1)).drop k).filter (fun p => p.1 != d) = cur ++ (if p.1 = d then [] else [p]) by rw [hst, hcur, ← List.append_assoc])
          rw [← hcur] at hS
          have HX := Lib.hid hx
          have HC := Lib.hid hc
          have HC2 := Lib.hid hc2
          have heq : ∀ W : World, (Op.equalIn 10000 29 (.agg (c8 p.1).toArray) (.agg (c8 d).toArray)).run Try.prog W = .ok (decide (p.1 = d)) W := fun W => eq_a32 W p.1 d HX.out.1 HD.out
          obtain ⟨r, hr⟩ : ∃ r, decide (p.1 = d) = r := ⟨_, rfl⟩
          have HR0 := Lib.hid hr
          rw [hr] at heq
          clear hc hc2 hx hst hpe hcur hlt hr
          go_wp2
          have hS1 := hS.drew
          clear hS
          refine wp_region_mixC (fun W => Own w W _) (fun _ => true) [(0, true), (1, true), (2, true), (3, true), (4, true), (5, true), (6, true)] (by kernel_rfl) (by kernel_rfl) hS1 ?_
          iterate 4 (refine wpMix_step rfl (fun K hK => ?_); go_simp; (try go_bits); with_reducible refine hK _ ?_; clear hK K)
          refine wpMix_pureW (.agg (c8 p.1).toArray) rfl rfl (fun W hW => run_load_op 29 (.tmp 43) rfl Try.underlying29 rfl ⟨b, off + m * 33, none⟩ rfl _ (info_a32 p.1 HX.out.1) (fun j u hu => hW.cell (HC2.out j u hu))) ?_
          refine wpMix_pureW (.agg (c8 d).toArray) rfl rfl (fun W hW => run_load_op 29 (.tmp 4) rfl Try.underlying29 rfl ⟨w.heap.size, 0, none⟩ rfl _ (info_a32 d HD.out) (row_all (hW.row 1 rfl))) ?_
          iterate 1 (refine wpMix_step rfl (fun K hK => ?_); go_simp; (try go_bits); with_reducible refine hK _ ?_; clear hK K)
          unfold wpMix
          cases r with
          | true =>
            have hdx : p.1 = d := of_decide_eq_true HR0.out
            have HS2 := Lib.hid (show kv.take k ++ [(d, .slice At to.length ct)] ++ ((kv.take (m + 1)).drop k).filter (fun p => p.1 != d) = cur by rw [HST.out, if_pos hdx, List.append_nil])
            clear hdx
            go_wp2
            go_roundw
            case rel => exact ⟨m + 1, by omega, by omega, by go_num, by rw [HS2.out]; exact hS1⟩
            case measure => simp [intOf]; omega
          | false =>
            have hdx : p.1 ≠ d := of_decide_eq_false HR0.out
            have HS2 := Lib.hid (show kv.take k ++ [(d, .slice At to.length ct)] ++ ((kv.take (m + 1)).drop k).filter (fun p => p.1 != d) = cur ++ [p] by rw [HST.out, if_neg hdx])
            have HC3 := Lib.hid (fun j u hu => hS1.cell (HC.out j u hu))
            clear hdx
            go_wp2_with (first | (refine wp_load rfl 64 (.tmp 50) rfl Try.underlying64 rfl ⟨b, off + m * 33, none⟩ rfl (ndC p) (info_nd HX.out.1) HC3.out ?_) | (refine wp_built1 rfl 26 (.tmp 51) rfl 64 Try.underlying26 33 info_zn (by omega) (by omega) (ndC p) (ndC_len HX.out.1) rfl ?_))
            intro w7 hr hg
            have hS8 := hS1.new hr hg
            clear hS1 hr hg HC3
            go_wp2_with (refine wp_appN rfl (.tmp 47) (.tmp 52) rfl cur (cur ++ [p]) rfl (hS8.nodes 1 rfl) _ p rfl HX.out.1 HX.out.2 (hS8.row 0 rfl) rfl HTL.out hS8.size ?_)
            intro v' w8 ho hg hv
            have hS9 := (hS8.appendN 1 rfl ho hg (by first | exact hv | simpa using hv)).tail
            clear hS8 ho hg hv
            go_wp2
            go_roundw
            case rel => exact ⟨m + 1, by omega, by omega, by go_num, by rw [HS2.out]; exact hS9⟩
            case measure => simp [intOf] <;> omega
        · obtain rfl : m = kv.length := by omega
          have q3 : ¬ ((kv.length : Int) < (kv.length : Int)) := by omega
          rw [List.take_length, ← HPR2.out] at hS
          clear hlt
          go_wp2
          go_ret
          exact ⟨_, rfl, _, hS.sub (((List.Sublist.refl _).cons _).cons_cons _)⟩
end Go.Proofs.Ytnlnkojcbjaeeaa
