/- The walk of the law DigestSaves. -/
import Derived.Test.YtgagpbbmlpbjpaaSave
import Derived.Test.YtgagpbbmlpbjpaaPieces
import Derived.Test.YtgagpbbmlpbjpaaDigestSums
import Derived.Test.YtgagpbbmlpbjpaaWords
namespace Go.Proofs.Ytgagpbbmlpbjpaa
open Go.RowKit

theorem piecesL_flat : ∀ (p : List UInt8) (cs : List Int), (piecesL p cs).flatten = p
  | p, [] => by simp [piecesL]
  | p, c :: cs => by simp only [piecesL, List.flatten_cons]; rw [piecesL_flat]; exact List.take_append_drop _ _
/-- what came in behind k pieces -/
def fedL (ps : List (List UInt8)) (k : Nat) : List UInt8 := (ps.take k).flatten
theorem fedL_succ (ps : List (List UInt8)) (k : Nat) (q : List UInt8) (h : ps[k]? = some q) : fedL ps (k + 1) = fedL ps k ++ q := by
  unfold fedL; rw [List.take_add_one, h]; simp
theorem fedL_le (ps : List (List UInt8)) (k : Nat) : (fedL ps k).length ≤ ps.flatten.length := by
  unfold fedL
  have : ps.flatten = (ps.take k).flatten ++ (ps.drop k).flatten := by rw [← List.flatten_append, List.take_append_drop]
  rw [this]; simp
theorem fedL_all (ps : List (List UInt8)) : fedL ps ps.length = ps.flatten := by unfold fedL; rw [List.take_length]
def stAt (l : List UInt8) : V8 × List UInt8 := feed (begin0, []) l
theorem stAt_append (l q : List UInt8) : stAt (l ++ q) = feed (stAt l) q := feed_append _ _ _
theorem stAt_tail (l : List UInt8) : (stAt l).2.length < 64 ∧ (stAt l).2.length = l.length % 64 := ⟨feed_tail_lt _ _ (by simp), by unfold stAt; rw [feed_tail_len _ _ (by simp)]; simp⟩

theorem own_cells {w : World} {base g cap : Nat} {e : TypeId} {n : Nat} {xs : List Value} (h : w.ownsRow base e 1 (.slice (some ⟨g, 0, none⟩) n cap) n xs) (hn : 0 < n) : ∀ j u, xs[j]? = some u → w.cell? ⟨g, j, none⟩ = some u := by
  obtain ⟨g', cap', he, _, _, _, _, hc⟩ := own_form h hn
  simp only [Value.slice.injEq, Option.some.injEq, Addr.mk.injEq] at he
  obtain ⟨⟨rfl, _⟩, _⟩ := he
  exact hc
theorem own_src_bytes {w : World} {base : Nat} {e : TypeId} {v : Value} {t : List UInt8} (h : w.ownsRow base e 1 v t.length (c8 t)) : ∀ (A : Option Addr) (c : Nat), v = .slice A t.length c → Bytes w A t := by
  rintro A c rfl
  exact own_slice_bytes h
theorem piecesL_pos (p : List UInt8) (cs : List Int) : 0 < (piecesL p cs).length := by cases cs <;> simp [piecesL]

set_option maxRecDepth 100000 in
set_option maxHeartbeats 4000000 in
theorem walk_DigestSaves (w : World) (A : Option Addr) (c : Nat) (p : List UInt8) (hp : Bytes w A p) (hc : p.length ≤ c) (hr : c ≤ 140737488351232) (B : Option Addr) (d : Nat) (zs : List Int) (hz : Ints .i64 w B zs) (hwz : ∀ z ∈ zs, (Lit.int .i64 z).wf = true)
    (hd : zs.length ≤ d) (hd2 : d * 8 ≤ 140737488351232) :
    Calls Try.prog 6 #[.slice A p.length c, .slice B zs.length d] w fun e w' => e = .returned (.bool true) ∧ w.grownBy w' none := by
  obtain ⟨ps, hps⟩ : ∃ ps, ps = piecesL p (zs.take 40) := ⟨_, rfl⟩
  have hflat : ps.flatten.length = p.length := by rw [hps, piecesL_flat]
  have HP := Lib.hid hp
  have HPS := Lib.hid hps
  have HFL := Lib.hid hflat
  clear hps hflat hp hwz
  go_enter Try.func6, Try.ntmps6
  go_wp2_with fail
  refine (awake_any _).mono ?_
  rintro e w1 ⟨rfl, hg⟩
  have hS1 := (Own.start w).call hg
  clear hg
  go_wp2_with fail
  refine (new_any _).mono ?_
  rintro e w2 ⟨rfl, hrw, hg⟩
  have hS2 := hS1.newE hg (hasE_good w1.heap.size (stAt []) 0) ⟨List.replicate 64 0, by simp, rfl, rfl, hrw⟩ (fun k hk => by cases hk; exact Nat.le_refl _)
  have n1 : w.heap.size ≤ w1.heap.size := hS1.size
  clear hrw hg hS1
  go_wp2_with fail
  refine (rnew_any _).mono ?_
  rintro e w3 ⟨rfl, hg⟩
  have hS3 := hS2.call hg
  clear hg hS2
  go_wp2_with (refine wp_alloc (o := ⟨some 6, _, _, _, _, _⟩) rfl 46 rfl _ alloc_rs ?_)
  intro w4 hrw hg hz4
  clear hz4
  have hS4 := hS3.new hrw hg
  clear hrw hg hS3
  go_wp2_with (refine wp_storeAgg rfl 46 (.tmp 6) (.tmp 12) rfl w3.heap.size 0 46 zrs (rsCells begin0 0 (.slice none 0 0)) rfl rfl (hS4.row 0 rfl) (by kernel_rfl) (by decide) (by decide) ?_)
  intro w5 hrw hg hz5
  clear hz5
  rw [splice_all (by decide)] at hrw
  have hS5 := hS4.setRow 0 rfl hrw hg
  clear hrw hg hS4
  have hpc := pieces_any c d A B p zs w w5 HP.out hc hr (fun h0 => by
    obtain ⟨b, off, hB, hb, hcell⟩ := hz h0
    exact ⟨b, off, hB, Nat.lt_of_lt_of_le hb hS5.size, fun i hi => hS5.cell (hcell i hi)⟩) hd (by omega)
  rw [← HPS.out] at hpc
  have HPC := Lib.hid hpc
  clear hpc hz
  go_wp2_with fail
  refine HPC.out.mono ?_
  rintro e w6 ⟨v6, vals, rfl, hv, ho, hg⟩
  have HV := Lib.hid hv
  have hpos : 0 < ps.length := by rw [HPS.out]; exact piecesL_pos _ _
  obtain ⟨gp, cap, rfl, _, _, hpc, hpm, _⟩ := own_form ho hpos
  have hS6 : Own w w6 [ownsE w.heap.size 5 1 (.slice none 0 0) 0 (c8 []), ownsE w5.heap.size 22 1 (.slice (some ⟨gp, 0, none⟩) ps.length cap) ps.length vals, rowE w3.heap.size 46 (rsCells begin0 0 (.slice none 0 0)), hasE w1.heap.size (stAt []) 0] :=
    (hS5.made ho hg).newE (grownBy_refl _ _) (ownsE_good w.heap.size 5 1 (.slice none 0 0) 0 []) (World.ownsRow_nil _ _ _ _) (fun k hk => by cases hk)
  unfold maxLen at hpm
  clear ho hg hS5 HPC hv
  go_wp2
  go_loopw [17] (fun iv wr => ∃ (k c' base : Nat) (A' : Option Addr) (l : List UInt8), k ≤ ps.length ∧ iv = .int .i64 k ∧ l = fedL ps k ∧
    Own w wr [ownsE base 5 1 (.slice A' (stAt l).2.length c') (stAt l).2.length (c8 (stAt l).2), ownsE w5.heap.size 22 1 (.slice (some ⟨gp, 0, none⟩) ps.length cap) ps.length vals, rowE w3.heap.size 46 (rsCells (stAt l).1 l.length (.slice A' (stAt l).2.length c')), hasE w1.heap.size (stAt l) l.length]) (fun iv _ => ps.length - (intOf iv).toNat)
  case atStart => exact ⟨0, 0, w.heap.size, none, [], by omega, rfl, by simp [fedL], hS6⟩
  case round =>
    clear hS6
    obtain ⟨k, c', base, A', l, hk, rfl, hl, hS⟩ := hrel
    have HL := Lib.hid hl
    have hl1 : l.length ≤ p.length := by rw [hl, ← HFL.out]; exact fedL_le _ _
    have hlt1 := (stAt_tail l).1
    have HLT := Lib.hid (stAt_tail l).2
    clear hl
    by_cases hlt : k < ps.length
    · obtain ⟨q, hq⟩ : ∃ q, ps[k]? = some q := ⟨_, List.getElem?_eq_getElem hlt⟩
      obtain ⟨Aq, cq, hvk, hbq, hcq, hcq2⟩ := HV.out.2 k q hq
      have c0 := own_cells (hS.owns 1 rfl) hpos k _ hvk
      have hl2 : (l ++ q).length ≤ p.length := by rw [HL.out, ← fedL_succ ps k q hq, ← HFL.out]; exact fedL_le _ _
      have hl3 : l.length + q.length ≤ p.length := by simpa using hl2
      have HLQ := Lib.hid (show l ++ q = fedL ps (k + 1) by rw [HL.out, fedL_succ ps k q hq])
      have HBQ := Lib.hid hbq
      have q1 : (k : Int) < ps.length := by omega
      clear hq hvk hbq hl2
      go_wp2_with fail
      refine (swrite_ok w1.heap.size l.length cq Aq q (stAt l) wr (HBQ.out.off hS.grown n1) hcq (by omega) (hS.has 3 rfl) (by omega)).mono ?_
      rintro e w7 ⟨rfl, hg, hh⟩
      have hS7 := hS.write 3 rfl (hasE_good w1.heap.size (feed (stAt l) q) (l.length + q.length)) hh hg (.inl rfl)
      clear hS hg hh c0
      go_wp2_with (refine wp_load rfl 46 (.tmp 6) rfl Try.underlying46 rfl ⟨w3.heap.size, 0, none⟩ rfl (rsCells (stAt l).1 l.length (.slice A' (stAt l).2.length c')) (rs_info _ _ _) (row_all (hS7.row 2 rfl)) ?_)
      refine (rwrite_own l.length c' cq A' Aq (stAt l).1 (stAt l).2 q w7 (own_slice_bytes (hS7.owns 0 rfl)) hlt1 (HBQ.out.keep hS7.grown) (by omega) (by omega)).mono ?_
      rintro e w8 ⟨A8, c8', rfl, ho, hg⟩
      obtain ⟨l2, hl2⟩ : ∃ l2, l2 = l ++ q := ⟨_, rfl⟩
      have he : feed ((stAt l).1, (stAt l).2) q = stAt l2 := by rw [hl2]; exact (stAt_append l q).symm
      have hN : l.length + q.length = l2.length := by rw [hl2]; simp
      have hS7' : Own w w7 [ownsE base 5 1 (.slice A' (stAt l).2.length c') (stAt l).2.length (c8 (stAt l).2), ownsE w5.heap.size 22 1 (.slice (some ⟨gp, 0, none⟩) ps.length cap) ps.length vals, rowE w3.heap.size 46 (rsCells (stAt l).1 l.length (.slice A' (stAt l).2.length c')), hasE w1.heap.size (stAt l2) l2.length] := by
        rw [← he, ← hN]; exact hS7
      have HL2 := Lib.hid (hl2.trans HLQ.out)
      have hl4 : l2.length ≤ p.length := by omega
      rw [hN, he]
      rw [he] at ho
      have hS8 : Own w w8 [ownsE w7.heap.size 5 1 (.slice A8 (stAt l2).2.length c8') (stAt l2).2.length (c8 (stAt l2).2), ownsE w5.heap.size 22 1 (.slice (some ⟨gp, 0, none⟩) ps.length cap) ps.length vals, rowE w3.heap.size 46 (rsCells (stAt l).1 l.length (.slice A' (stAt l).2.length c')), hasE w1.heap.size (stAt l2) l2.length] := hS7'.tail.made ho hg
      have hA8 : A8 = none → c8' = 0 := fun h => by
        subst h
        rcases ho.2 with ⟨hv, _⟩ | ⟨g', cp, cu, hv, _⟩
        · injection hv
        · injection hv with h1; cases h1
      have HA8 := Lib.hid hA8
      have hlt2 := (stAt_tail l2).1
      clear ho hg hS7 hS7' hA8 hl2 he hN HLQ HBQ HLT hlt1
      go_wp2_with (refine wp_storeAgg rfl 46 (.tmp 6) (.tmp 27) rfl w3.heap.size 0 46 (rsCells (stAt l).1 l.length (.slice A' (stAt l).2.length c')) (rsCells (stAt l2).1 l2.length (.slice A8 (stAt l2).2.length c8')) rfl rfl (hS8.row 2 rfl) (rs_info _ _ _) (rs_fit _ _ _ _ _ _) (rs_one _ _ _ _ _) ?_)
      intro w9 hrw hg hz9
      clear hz9
      rw [splice_all (by simp [rsCells, wordsOf])] at hrw
      have hS9 := hS8.setRow 2 rfl hrw hg
      clear hrw hg hS8
      go_wp2_with fail
      have hS10 := hS9.drew
      clear hS9
      refine wp_region_mixC (fun W => Own w W _) (fun _ => true) [(0, true), (2, true), (1, false), (3, false), (4, false), (5, false)] (by kernel_rfl) (by kernel_rfl) hS10 ?_
      iterate 1 (refine wpMix_step rfl (fun K hK => ?_); go_simp; (try go_bits); with_reducible refine hK _ ?_; clear hK K)
      refine wpMix_pureW (.agg (rsCells (stAt l2).1 l2.length (.slice A8 (stAt l2).2.length c8')).toArray) rfl rfl (fun W hW => run_load_op 46 (.tmp 6) rfl Try.underlying46 rfl ⟨w3.heap.size, 0, none⟩ rfl _ (rs_info _ _ _) (row_all (hW.row 2 rfl))) ?_
      refine wpMix_loudW _ rfl rfl ?_
      go_wp2_with fail
      refine (save_any w1.heap.size l2.length (stAt l2) _ (hS10.has 3 rfl) (by omega)).mono ?_
      rintro e w11 ⟨vs, rfl, ho1, hg⟩
      have hS11 := hS10.call hg
      clear hg hS10
      go_wp2_with fail
      refine wpMix_next' (fun _ => hS11) ?_
      have ho1' := own_n ho1 (saveOf_length (stAt l2) l2.length).symm
      have hb1 := own_src_bytes ho1'
      obtain ⟨As, cs, rfl, _⟩ := own_bytes ho1'
      have HB1 := Lib.hid (hb1 _ _ rfl)
      clear ho1 ho1' hb1
      refine wpMix_loud _ rfl rfl ?_
      go_wp2_with fail
      refine (rsave_any l2.length c8' A8 (stAt l2).1 (stAt l2).2 _ (own_slice_bytes (hS11.owns 0 rfl)) HA8.out hlt2 (by omega)).mono ?_
      rintro e w12 ⟨vr, rfl, ho2, hg⟩
      have hS12 := hS11.call hg
      have hb1' := Lib.hid (HB1.out.keep hg)
      have ho2' := own_n ho2 (saveOf_length (stAt l2) l2.length).symm
      have hb2 := own_src_bytes ho2'
      obtain ⟨Ar, cr, rfl, _⟩ := own_bytes ho2'
      have HB2 := Lib.hid (hb2 _ _ rfl)
      clear ho2 ho2' hb2 hg hS11 HB1
      go_wp2_with fail
      refine wpMix_next' (fun _ => hS12) ?_
      have hsame := same_any cs cr As Ar (saveOf (stAt l2) l2.length) (saveOf (stAt l2) l2.length) w12 hb1'.out HB2.out (by rw [saveOf_length]; omega) (by rw [saveOf_length]; omega)
      simp only [decide_true] at hsame
      refine wpMix_loud _ rfl rfl ?_
      go_wp2_with fail
      refine hsame.mono ?_
      rintro e w13 ⟨rfl, hg⟩
      have hS13 := hS12.call hg
      clear hg hS12 hsame hb1' HB2
      go_wp2_with fail
      refine wpMix_next' (fun _ => hS13) ?_
      refine wpMix_loudW _ rfl rfl ?_
      go_wp2_with fail
      refine wpMix_next' (fun _ => hS13) ?_
      unfold wpMix
      go_wp2
      go_roundw
      case rel => exact ⟨k + 1, c8', _, A8, l2, by omega, by go_num, HL2.out, hS13⟩
      case measure => simp [intOf]; omega
    · have hke : k = ps.length := by omega
      have hlp : l.length = p.length := by rw [HL.out, hke, fedL_all, HFL.out]
      have q1 : (ps.length : Int) ≤ k := by omega
      have hcl := rclose_any l.length c' A' (stAt l).1 (stAt l).2
      have HCL := Lib.hid hcl
      clear hke hlt hcl
      have HLP := Lib.hid hlp
      clear hlp
      go_wp2_with fail
      have hS1 := hS.drew
      clear hS
      refine wp_region_mixC (fun W => Own w W _) (fun _ => true) [(0, true), (2, true), (1, false), (3, false), (4, false), (5, false)] (by kernel_rfl) (by kernel_rfl) hS1 ?_
      iterate 1 (refine wpMix_step rfl (fun K hK => ?_); go_simp; (try go_bits); with_reducible refine hK _ ?_; clear hK K)
      refine wpMix_pureW (.agg (rsCells (stAt l).1 l.length (.slice A' (stAt l).2.length c')).toArray) rfl rfl (fun W hW => run_load_op 46 (.tmp 6) rfl Try.underlying46 rfl ⟨w3.heap.size, 0, none⟩ rfl _ (rs_info _ _ _) (row_all (hW.row 2 rfl))) ?_
      refine wpMix_loudW _ rfl rfl ?_
      go_wp2_with fail
      refine (stsum_any w1.heap.size l.length (stAt l) _ (hS1.has 3 rfl) (by omega)).mono ?_
      rintro e w7 ⟨rfl, hg⟩
      have hS2 := hS1.call hg
      clear hg hS1
      go_wp2_with fail
      refine wpMix_next' (fun _ => hS2) ?_
      refine wpMix_loudW _ rfl rfl ?_
      go_wp2_with fail
      refine (HCL.out _ (own_slice_bytes (hS2.owns 0 rfl)) hlt1 (by omega) HLT.out).mono ?_
      rintro e w8 ⟨rfl, hg⟩
      have hS3 := hS2.call hg
      clear hg hS2
      go_wp2_with fail
      refine wpMix_next' (fun _ => hS3) ?_
      have heq := fun W => eq_dig W (closeOf (stAt l) l.length) (closeOf (stAt l) l.length) (bytesOf_length _) (bytesOf_length _)
      simp only [decide_true] at heq
      refine wpMix_loudW _ rfl rfl ?_
      go_wp2_with fail
      refine wpMix_next' (fun _ => hS3) ?_
      refine wpMix_loudW _ rfl rfl ?_
      go_wp2_with fail
      refine wpMix_next' (fun _ => hS3) ?_
      unfold wpMix
      go_wp2
      go_ret
      exact ⟨rfl, hS3.grown⟩
end Go.Proofs.Ytgagpbbmlpbjpaa
