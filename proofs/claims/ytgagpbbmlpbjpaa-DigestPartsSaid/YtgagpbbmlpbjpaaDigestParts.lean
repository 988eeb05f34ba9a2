/- The walk of the law DigestParts. -/
import Derived.Test.YtgagpbbmlpbjpaaLoadLaw
import Derived.Test.YtgagpbbmlpbjpaaDigestSaves
import Derived.Lib.SlBytesConst
namespace Go.Proofs.Ytgagpbbmlpbjpaa
open Go.RowKit

theorem fedL_take (ps : List (List UInt8)) (k : Nat) : ps.flatten.take (fedL ps k).length = fedL ps k := by
  unfold fedL
  have h : ps.flatten = (ps.take k).flatten ++ (ps.drop k).flatten := by rw [← List.flatten_append, List.take_append_drop]
  rw [h, List.take_append_of_le_length (Nat.le_refl _), List.take_of_length_le (Nat.le_refl _)]
set_option maxRecDepth 100000 in
set_option maxHeartbeats 4000000 in
theorem walk_DigestParts (w : World) (A : Option Addr) (c : Nat) (p : List UInt8) (hp : Bytes w A p) (hc : p.length ≤ c) (hr : c ≤ 140737488351232) (B : Option Addr) (d : Nat) (zs : List Int) (hz : Ints .i64 w B zs) (hwz : ∀ z ∈ zs, (Lit.int .i64 z).wf = true)
    (hd : zs.length ≤ d) (hd2 : d * 8 ≤ 140737488351232) (D : Option Addr) (f : Nat) (bs : List Bool) (hbs : Bools w D bs) (hf : bs.length ≤ f) (hf2 : f ≤ 140737488351232) :
    Calls Try.prog 9 #[.slice A p.length c, .slice B zs.length d, .slice D bs.length f] w fun e w' => e = .returned (.bool true) ∧ w.grownBy w' none := by
  obtain ⟨ps, hps⟩ : ∃ ps, ps = piecesL p (zs.take 40) := ⟨_, rfl⟩
  have hflat : ps.flatten = p := by rw [hps, piecesL_flat]
  have HP := Lib.hid hp
  have HPS := Lib.hid hps
  have HFL := Lib.hid hflat
  have HBS := Lib.hid hbs
  clear hps hflat hp hwz hbs
  have kc := fun (w : World) (C : Array Value) (n c : Nat) => Lib.run_convert_bytes_const (P := Try.prog) w 22 5 C n c Try.underlying22 Try.underlying5
  go_enter Try.func9, Try.ntmps9
  go_wp2_with fail
  refine (awake_any _).mono ?_
  rintro e w1 ⟨rfl, hg⟩
  have hS1 := (Own.start w).call hg
  clear hg
  go_wp2_with fail
  refine (new_any _).mono ?_
  rintro e w2 ⟨rfl, hrw, hg⟩
  have hS2 := hS1.newE hg (hasE_good w1.heap.size (stAt []) 0) ⟨List.replicate 64 0, by simp, rfl, rfl, hrw⟩ (fun k hk => by cases hk; exact Nat.le_refl _)
  have n1 : w.heap.size ≤ w1.heap.size := hS1.size
  clear hrw hg hS1
  have hpc := pieces_any c d A B p zs w w2 HP.out hc hr (hz.keep hS2.grown) hd (by omega)
  rw [← HPS.out] at hpc
  have HPC := Lib.hid hpc
  clear hpc hz
  go_wp2_with fail
  refine HPC.out.mono ?_
  rintro e w6 ⟨v6, vals, rfl, hv, ho, hg⟩
  have HV := Lib.hid hv
  have hpos : 0 < ps.length := by rw [HPS.out]; exact piecesL_pos _ _
  obtain ⟨gp, cap, rfl, _, _, hpc, hpm, _⟩ := own_form ho hpos
  have hS6 : Own w w6 [ownsE w2.heap.size 22 1 (.slice (some ⟨gp, 0, none⟩) ps.length cap) ps.length vals, hasE w1.heap.size (stAt []) 0] := hS2.made ho hg
  unfold maxLen at hpm
  clear ho hg HPC hv hS2
  go_wp2
  go_loopw [7, 8, 20] (fun sv av iv wr => ∃ (k g : Nat) (l : List UInt8), k ≤ ps.length ∧ w.heap.size ≤ g ∧ sv = .pointer (some ⟨g, 0, none⟩) ∧ av = .int .i64 (l.length : Int) ∧ iv = .int .i64 k ∧ l = fedL ps k ∧
    Own w wr [ownsE w2.heap.size 22 1 (.slice (some ⟨gp, 0, none⟩) ps.length cap) ps.length vals, hasE g (stAt l) l.length]) (fun _ _ iv _ => ps.length - (intOf iv).toNat)
  case atStart => exact ⟨0, w1.heap.size, [], by omega, n1, rfl, rfl, rfl, by simp [fedL], hS6⟩
  case round =>
    clear hS6
    obtain ⟨k, g, l, hk, hg0, rfl, rfl, rfl, hl, hS⟩ := hrel
    have HL := Lib.hid hl
    have hl1 : l.length ≤ p.length := by rw [hl, ← HFL.out]; exact fedL_le _ _
    clear hl
    by_cases hlt : k < ps.length
    · obtain ⟨q, hq⟩ : ∃ q, ps[k]? = some q := ⟨_, List.getElem?_eq_getElem hlt⟩
      obtain ⟨Aq, cq, hvk, hbq, hcq, hcq2⟩ := HV.out.2 k q hq
      have c0 := own_cells (hS.owns 0 rfl) hpos k _ hvk
      have hl2 : (l ++ q).length ≤ p.length := by rw [HL.out, ← fedL_succ ps k q hq, ← HFL.out]; exact fedL_le _ _
      have hl3 : l.length + q.length ≤ p.length := by simpa using hl2
      have hlq : l ++ q = fedL ps (k + 1) := by rw [HL.out, fedL_succ ps k q hq]
      have hwr := swrite_ok g l.length cq Aq q (stAt l) wr (hbq.off hS.grown hg0) hcq (by omega) (hS.has 1 rfl) (by omega)
      obtain ⟨l2, hl2'⟩ : ∃ l2, l2 = l ++ q := ⟨_, rfl⟩
      have hN : l.length + q.length = l2.length := by rw [hl2']; simp
      rw [show feed (stAt l) q = stAt l2 by rw [hl2']; exact (stAt_append l q).symm, hN] at hwr
      have HL2 := Lib.hid (hl2'.trans hlq)
      have hl4 : l2.length ≤ p.length := by omega
      have htk : p.take l2.length = l2 := by rw [HL2.out, ← HFL.out]; exact fedL_take ps (k + 1)
      have hto := fun W => run_to8 (P := Try.prog) Try.underlying22 (e := 5) (by kernel_rfl) A p.length c l2.length (by omega) W
      have hsum : ∀ W, w.grownBy W none → Calls Try.prog 12 #[.slice A l2.length c] W fun e w' => e = .returned (.agg (c8 (sha l2)).toArray) ∧ W.grownBy w' none := fun W hW => by
        have h1 := dsum_any c A (p.take l2.length) W (bytes_take (HP.out.keep hW) _) (by rw [htk]; omega) (by omega) (by rw [htk]; omega)
        rw [htk] at h1
        exact h1
      have HSUM := Lib.hid hsum
      have HWR := Lib.hid hwr
      have heq := fun W => eq_dig W (sha l2) (sha l2) (sha_length l2) (sha_length l2)
      simp only [decide_true] at heq
      have hclose : closeOf (stAt l2) l2.length = sha l2 := rfl
      have HN := Lib.hid hN
      have hstl := stAt_tail l2
      have q1 : (k : Int) < ps.length := by omega
      have q2 : (l.length : Int) + q.length = l2.length := by omega
      clear hq hvk hbq hl2 hlq hwr hl2' hN htk hsum
      go_wp2_with fail
      refine HWR.out.mono ?_
      rintro e w7 ⟨rfl, hg, hh⟩
      have hS7 : Own w w7 [ownsE w2.heap.size 22 1 (.slice (some ⟨gp, 0, none⟩) ps.length cap) ps.length vals, hasE g (stAt l2) l2.length] := hS.write 1 rfl (hasE_good g (stAt l2) l2.length) hh hg (.inl rfl)
      clear hS hg hh c0 HWR
      by_cases hkb : k < bs.length
      · obtain ⟨b0, off0, rfl, _, hcb⟩ := HBS.out (by omega)
        have cb := hS7.cell (hcb k hkb)
        obtain ⟨bv, hbv⟩ : ∃ bv, bv = bs.getD k false := ⟨_, rfl⟩
        rw [← hbv] at cb
        have q3 : (k : Int) < bs.length := by omega
        clear hbv hcb
        cases bv with
        | false =>
          clear kc
          go_wp2
          have hSR := hS7.drew
          clear hS7
          refine wp_region_mixC (fun W => Own w W _) (fun _ => true) [(0, true), (2, true), (1, false), (3, true), (4, true), (5, true), (7, true), (8, true), (9, true), (6, false), (10, false), (11, true), (12, true)] (by kernel_rfl) (by kernel_rfl) hSR ?_
          iterate 2 (refine wpMix_step rfl (fun K hK => ?_); go_simp; (try go_bits); with_reducible refine hK _ ?_; clear hK K)
          refine wpMix_loudW _ rfl rfl ?_
          go_wp2_with fail
          refine (size_any g l2.length (stAt l2) _ (hSR.has 1 rfl) (by omega)).mono ?_
          rintro e w20 ⟨rfl, rfl⟩
          go_wp2_with fail
          refine wpMix_next' (fun _ => hSR) ?_
          iterate 6 (refine wpMix_step rfl (fun K hK => ?_); go_simp; (try go_bits); with_reducible refine hK _ ?_; clear hK K)
          refine wpMix_loudW _ rfl rfl ?_
          go_wp2_with fail
          refine (stsum_any g l2.length (stAt l2) _ (hSR.has 1 rfl) (by omega)).mono ?_
          rintro e w21 ⟨rfl, hg⟩
          have hSY := hSR.call hg
          clear hg hSR
          go_wp2_with fail
          refine wpMix_next' (fun _ => hSY) ?_
          refine wpMix_loudW _ rfl rfl ?_
          go_wp2_with fail
          refine (HSUM.out _ hSY.grown).mono ?_
          rintro e w22 ⟨rfl, hg⟩
          have hSZ := hSY.call hg
          clear hg hSY
          go_wp2_with fail
          refine wpMix_next' (fun _ => hSZ) ?_
          iterate 2 (refine wpMix_step rfl (fun K hK => ?_); go_simp; (try go_bits); with_reducible refine hK _ ?_; clear hK K)
          unfold wpMix
          go_wp2
          go_roundw
          case rel => exact ⟨k + 1, g, l2, by omega, hg0, rfl, by go_num, by go_num, HL2.out, hSZ⟩
          case measure => simp [intOf]; omega
        | true =>
          go_wp2_with fail
          refine (save_any g l2.length (stAt l2) _ (hS7.has 1 rfl) (by omega)).mono ?_
          rintro e w8 ⟨vs, rfl, ho1, hg⟩
          have hS8 := hS7.call hg
          have ho1' := own_n ho1 (saveOf_length (stAt l2) l2.length).symm
          have hb1 := own_src_bytes ho1'
          obtain ⟨As, cs, rfl, _, hcs, hcm⟩ := own_bytes ho1'
          unfold maxLen at hcm
          have hb1' := hb1 _ _ rfl
          have hls := load_save (stAt l2) l2.length (by omega) hstl.2
          have hsl := saveOf_length (stAt l2) l2.length
          have hld := load_any cs As (saveOf (stAt l2) l2.length) w8 hb1' hcs (by omega) (by omega)
          have HLD := Lib.hid hld
          have HLS := Lib.hid hls
          clear ho1 ho1' hb1 hg hS7 hb1' hld hls hsl
          go_wp2_with fail
          refine HLD.out.mono ?_
          rintro e w9 (⟨_, rfl, hh, hg⟩ | ⟨hno, _⟩)
          · rw [HLS.out.2.1, HLS.out.2.2] at hh
            have hS9 := hS8.newE hg (hasE_good w8.heap.size (stAt l2) l2.length) hh (fun k hk => by cases hk; exact Nat.le_refl _)
            have hg1 : w.heap.size ≤ w8.heap.size := hS8.size
            have hglt : g < w9.heap.size := hS9.lt 2 rfl rfl
            clear hh hg hS8 HLD
            go_wp2_with fail
            have hel : BytesOff (w9.alloc (Obj.cells (c8 [101, 108, 115, 101]).toArray 5 (4, 5))) g (some ⟨w9.heap.size, 0, none⟩) [101, 108, 115, 101] := fun h0 => by
              obtain ⟨b, off, hA, hcell⟩ := bytes_const w9 5 [101, 108, 115, 101] (4, 5) h0
              refine ⟨b, off, hA, ?_, hcell⟩
              simp only [Option.some.injEq, Addr.mk.injEq] at hA
              omega
            have hS10 := hS9.call (World.grownBy_alloc w9 (Obj.cells (c8 [101, 108, 115, 101]).toArray 5 (4, 5)) none)
            have hwe := swrite_ok g l2.length 4 (some ⟨w9.heap.size, 0, none⟩) [101, 108, 115, 101] (stAt l2) _ hel (by simp) (by omega) (hS10.has 2 rfl) (by simp; omega)
            refine hwe.mono ?_
            rintro e w11 ⟨rfl, hg, hh⟩
            have hS11 : Own w w11 [hasE w8.heap.size (stAt l2) l2.length, ownsE w2.heap.size 22 1 (.slice (some ⟨gp, 0, none⟩) ps.length cap) ps.length vals] := (hS10.write 2 rfl (hasE_good g _ _) hh hg (.inl rfl)).sub (by simp [List.set])
            clear hS9 hS10 hwe hel hg hh hglt kc
            go_wp2
            have hSR := hS11.drew
            clear hS11
            refine wp_region_mixC (fun W => Own w W _) (fun _ => true) [(0, true), (2, true), (1, false), (3, true), (4, true), (5, true), (7, true), (8, true), (9, true), (6, false), (10, false), (11, true), (12, true)] (by kernel_rfl) (by kernel_rfl) hSR ?_
            iterate 2 (refine wpMix_step rfl (fun K hK => ?_); go_simp; (try go_bits); with_reducible refine hK _ ?_; clear hK K)
            refine wpMix_loudW _ rfl rfl ?_
            go_wp2_with fail
            refine (size_any w8.heap.size l2.length (stAt l2) _ (hSR.has 0 rfl) (by omega)).mono ?_
            rintro e w20 ⟨rfl, rfl⟩
            go_wp2_with fail
            refine wpMix_next' (fun _ => hSR) ?_
            iterate 6 (refine wpMix_step rfl (fun K hK => ?_); go_simp; (try go_bits); with_reducible refine hK _ ?_; clear hK K)
            refine wpMix_loudW _ rfl rfl ?_
            go_wp2_with fail
            refine (stsum_any w8.heap.size l2.length (stAt l2) _ (hSR.has 0 rfl) (by omega)).mono ?_
            rintro e w21 ⟨rfl, hg⟩
            have hSY := hSR.call hg
            clear hg hSR
            go_wp2_with fail
            refine wpMix_next' (fun _ => hSY) ?_
            refine wpMix_loudW _ rfl rfl ?_
            go_wp2_with fail
            refine (HSUM.out _ hSY.grown).mono ?_
            rintro e w22 ⟨rfl, hg⟩
            have hSZ := hSY.call hg
            clear hg hSY
            go_wp2_with fail
            refine wpMix_next' (fun _ => hSZ) ?_
            iterate 2 (refine wpMix_step rfl (fun K hK => ?_); go_simp; (try go_bits); with_reducible refine hK _ ?_; clear hK K)
            unfold wpMix
            go_wp2
            go_roundw
            case rel => exact ⟨k + 1, w8.heap.size, l2, by omega, hg1, rfl, by go_num, by go_num, HL2.out, hSZ.swap⟩
            case measure => simp [intOf]; omega
          · exact absurd HLS.out.1 hno
      · have q3 : (bs.length : Int) ≤ k := by omega
        clear kc hkb
        go_wp2
        have hSR := hS7.drew
        clear hS7
        refine wp_region_mixC (fun W => Own w W _) (fun _ => true) [(0, true), (2, true), (1, false), (3, true), (4, true), (5, true), (7, true), (8, true), (9, true), (6, false), (10, false), (11, true), (12, true)] (by kernel_rfl) (by kernel_rfl) hSR ?_
        iterate 2 (refine wpMix_step rfl (fun K hK => ?_); go_simp; (try go_bits); with_reducible refine hK _ ?_; clear hK K)
        refine wpMix_loudW _ rfl rfl ?_
        go_wp2_with fail
        refine (size_any g l2.length (stAt l2) _ (hSR.has 1 rfl) (by omega)).mono ?_
        rintro e w20 ⟨rfl, rfl⟩
        go_wp2_with fail
        refine wpMix_next' (fun _ => hSR) ?_
        iterate 6 (refine wpMix_step rfl (fun K hK => ?_); go_simp; (try go_bits); with_reducible refine hK _ ?_; clear hK K)
        refine wpMix_loudW _ rfl rfl ?_
        go_wp2_with fail
        refine (stsum_any g l2.length (stAt l2) _ (hSR.has 1 rfl) (by omega)).mono ?_
        rintro e w21 ⟨rfl, hg⟩
        have hSY := hSR.call hg
        clear hg hSR
        go_wp2_with fail
        refine wpMix_next' (fun _ => hSY) ?_
        refine wpMix_loudW _ rfl rfl ?_
        go_wp2_with fail
        refine (HSUM.out _ hSY.grown).mono ?_
        rintro e w22 ⟨rfl, hg⟩
        have hSZ := hSY.call hg
        clear hg hSY
        go_wp2_with fail
        refine wpMix_next' (fun _ => hSZ) ?_
        iterate 2 (refine wpMix_step rfl (fun K hK => ?_); go_simp; (try go_bits); with_reducible refine hK _ ?_; clear hK K)
        unfold wpMix
        go_wp2
        go_roundw
        case rel => exact ⟨k + 1, g, l2, by omega, hg0, rfl, by go_num, by go_num, HL2.out, hSZ⟩
        case measure => simp [intOf]; omega
    · have hlp : l.length = p.length := by
        have hke : k = ps.length := by omega
        rw [HL.out, hke, fedL_all, HFL.out]
      have q1 : (ps.length : Int) ≤ k := by omega
      have t1 : ((l.length : Int) == (p.length : Int)) = true := by rw [beq_iff_eq]; omega
      clear hlt kc
      have HLP := Lib.hid hlp
      clear hlp
      go_wp2
      go_ret
      exact ⟨rfl, hS.grown⟩
end Go.Proofs.Ytgagpbbmlpbjpaa
