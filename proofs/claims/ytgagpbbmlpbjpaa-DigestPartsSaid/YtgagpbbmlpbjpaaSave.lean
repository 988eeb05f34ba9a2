/- The contracts of Save, the program's and the document's. -/
import Derived.Test.YtgagpbbmlpbjpaaState
namespace Go.Proofs.Ytgagpbbmlpbjpaa
open Go.RowKit

def wordBytes (l : List UInt32) : List UInt8 := l.flatMap fun x => beBytes x.toNat 4
theorem wordBytes_snoc (l : List UInt32) (x : UInt32) : wordBytes (l ++ [x]) = wordBytes l ++ beBytes x.toNat 4 := by simp [wordBytes]
theorem wordBytes_length (l : List UInt32) : (wordBytes l).length = 4 * l.length := by
  induction l with
  | nil => rfl
  | cons x l ih => simp only [wordBytes, List.flatMap_cons, List.length_append] at ih ⊢; rw [ih, beBytes_length]; simp; omega
theorem take_snoc32 (p : List UInt32) (i : Nat) (h : i < p.length) : p.take (i + 1) = p.take i ++ [p.getD i 0] := by
  rw [List.take_add_one, List.getElem?_eq_getElem h]; simp [h]
/-- a state's bytes -/
def saveOf (s : V8 × List UInt8) (n : Nat) : List UInt8 := bytesOf s.1 ++ beBytes n 8 ++ s.2
theorem saveOf_length (s : V8 × List UInt8) (n : Nat) : (saveOf s n).length = 40 + s.2.length := by simp [saveOf, bytesOf_length, beBytes_length]; omega

theorem bytes_src {w : World} {A : Option Addr} {c : Nat} {t : List UInt8} (h : Bytes w A t) (hA : A = none → c = 0) : Src w A c (c8 t) := by
  rcases Nat.eq_zero_or_pos t.length with h0 | h0
  · have ht : t = [] := List.eq_nil_of_length_eq_zero h0
    subst ht
    cases A with
    | none => exact .inl ⟨rfl, rfl, hA rfl⟩
    | some ad => exact .inr ⟨ad, rfl, fun j u hj => by simp [c8] at hj⟩
  · obtain ⟨b, off, rfl, _, hc⟩ := h.at_ h0
    refine .inr ⟨_, rfl, fun j u hj => ?_⟩
    have hjl : j < t.length := by have := (List.getElem?_eq_some_iff.1 hj).1; simpa using this
    rw [addr_add, hc j hjl, ← hj, c8_get t j hjl]

set_option maxRecDepth 100000 in
set_option maxHeartbeats 2000000 in
theorem save_any (g n : Nat) (s : V8 × List UInt8) (w : World) (hs : Has w g s n) (hn : n ≤ 2305843009213693951) :
    Calls Try.prog 25 #[.pointer (some ⟨g, 0, none⟩)] w
      fun e w' => ∃ v', e = .returned v' ∧ w'.ownsRow w.heap.size 5 1 v' (40 + s.2.length) (c8 (saveOf s n)) ∧ w.grownBy w' none := by
  have hlt : g < w.heap.size := (hasE_good g s n).2 w hs g rfl
  go_enter Try.func25, Try.ntmps25
  go_wp2_with (refine wp_load rfl 33 (.tmp 10) rfl Try.underlying33 rfl ⟨g, 0, none⟩ rfl (c32 (wordsOf s.1)) (by kernel_rfl) (has_words hs) ?_)
  go_loopw [3, 12] (fun sv iv wr => ∃ k : Nat, k ≤ 8 ∧ iv = .int .i64 k ∧ Own w wr [ownE w.heap.size 5 sv (4 * k) (c8 (wordBytes ((wordsOf s.1).take k)))]) (fun _ iv _ => 8 - (intOf iv).toNat)
  case atStart => exact ⟨0, by omega, rfl, by simpa [c8, wordBytes] using (Own.start w).nilRow w.heap.size 5⟩
  case round =>
    obtain ⟨k, hk, rfl, hS⟩ := hrel
    by_cases hlt8 : k < 8
    · obtain ⟨y, hy⟩ : ∃ y, y = (wordsOf s.1).getD k 0 := ⟨_, rfl⟩
      have hix : ∀ W, (Instr.index 33 (.agg (c32 (wordsOf s.1)).toArray) (.int .i64 (k : Int))).run Try.prog W = .ok (.int .u32 (n32 y)) W := fun W => run_index_agg W Try.underlying33 Try.underlying32 rfl (by kernel_rfl) _ k hlt8 _ (by rw [hy]; exact c32_get _ k (by simp [wordsOf]; exact hlt8))
      have b1 := n32_lo y
      have b2 := n32_hi y
      have HW := Lib.hid (show wordBytes ((wordsOf s.1).take (k + 1)) = wordBytes ((wordsOf s.1).take k) ++ beBytes y.toNat 4 by rw [take_snoc32 _ k (by simp [wordsOf]; exact hlt8), ← hy, wordBytes_snoc])
      have q1 : (k : Int) < 8 := by omega
      clear hy
      go_wp2_with fail
      refine (put_octI _ _ y.toNat 4 _ rfl rfl (by omega) (by omega) (by have := y.toNat_lt; omega)).mono ?_
      rintro e w1 ⟨rfl, hr, hg⟩
      have hS1 := hS.new hr hg
      clear hS hr hg hix
      have hbo := own_block (hS1.own 1 rfl)
      go_wp2_with (refine wp_append1 rfl (.tmp 15) (.tmp 18) 22 rfl w.heap.size 5 (.int .u8 0) 1 Try.underlying22 info_u8 rfl _ (4 * k) (c8 (wordBytes ((wordsOf s.1).take k))) rfl (hS1.own 1 rfl) _ 4 4 (c8 (beBytes y.toNat 4)) rfl (.inr ⟨_, rfl, row_all (hS1.row 0 rfl)⟩) (by simp [beBytes_length]) (one8 _) (by unfold maxLen; omega) (by omega) hS1.size ?_)
      intro v' w2 ho2 hg2 hv2
      have hap : c8 (wordBytes ((wordsOf s.1).take k)) ++ c8 (beBytes y.toNat 4) = c8 (wordBytes ((wordsOf s.1).take (k + 1))) := by rw [HW.out]; simp [c8]
      rw [hap, show 4 * k + 4 = 4 * (k + 1) from by omega] at ho2
      have hS2 := (hS1.append 1 rfl ho2 hg2 hv2).tail
      clear hS1 ho2 hg2 hv2 hbo hap
      go_wp2
      go_roundw
      case rel => exact ⟨k + 1, by omega, by go_num, hS2⟩
      case measure => simp [intOf]; omega
    · have hke : k = 8 := by omega
      rw [hke, List.take_of_length_le (by simp [wordsOf])] at hS
      clear hke
      have hs1 := hs.grown hS.grown (by simp)
      have c8' := has_cell8 hs1
      have q1 : (8 : Int) ≤ k := by omega
      clear hlt8 hk
      go_wp2_with fail
      refine (put_octI _ _ n 8 _ rfl rfl (by omega) (by omega) (by omega)).mono ?_
      rintro e w1 ⟨rfl, hr, hg⟩
      have hS1 := hS.new hr hg
      clear hS hr hg c8' hs1
      go_wp2_with (refine wp_append1 rfl (.tmp 21) (.tmp 26) 22 rfl w.heap.size 5 (.int .u8 0) 1 Try.underlying22 info_u8 rfl _ 32 (c8 (wordBytes (wordsOf s.1))) rfl (hS1.own 1 rfl) _ 8 8 (c8 (beBytes n 8)) rfl (.inr ⟨_, rfl, row_all (hS1.row 0 rfl)⟩) (by simp [beBytes_length]) (one8 _) (by unfold maxLen; omega) (by omega) hS1.size ?_)
      intro v' w2 ho2 hg2 hv2
      have hS2 := (hS1.append 1 rfl ho2 hg2 hv2).tail
      clear hS1 ho2 hg2 hv2
      have hs2 := hs.grown hS2.grown (by simp)
      have c8' := has_cell8 hs2
      have ht2 := has_tail hs2
      obtain ⟨m, hmm⟩ : ∃ m, m = n % 64 := ⟨_, rfl⟩
      have hm : (n : Int) % 64 = (m : Int) := by omega
      have hm0 : (0 : Int) ≤ (m : Int) := by omega
      have hm1 : (m : Int) ≤ 64 := by omega
      have HT := Lib.hid (ht2.1.trans hmm.symm)
      clear hmm
      have HB := Lib.hid ht2.2
      clear ht2 hs2
      go_wp2
      have hS3 := hS2.drew
      clear hS2
      refine wp_region_mixC (fun W => Own w W []) (fun _ => true) [(0, true), (1, true), (2, true), (3, true), (4, true), (5, true), (6, true), (7, true), (8, true), (9, true), (10, false), (11, false)] (by kernel_rfl) (by kernel_rfl) (hS3.sub (List.nil_sublist _)) ?_
      iterate 7 (refine wpMix_step rfl (fun K hK => ?_); go_simp; (try go_bits); with_reducible refine hK _ ?_; clear hK K)
      refine wpMix_pure (.int .u64 (n : Int)) rfl rfl (fun W hW => run_load1_op 44 (.tmp 34) rfl Try.underlying44 rfl ⟨g, 8, none⟩ rfl _ (has_cell8 (hs.grown hW.grown (by simp)))) ?_
      iterate 2 (refine wpMix_step rfl (fun K hK => ?_); go_simp; (try go_bits); with_reducible refine hK _ ?_; clear hK K)
      refine wpMix_loud _ rfl rfl ?_
      refine wp_append1 rfl (.tmp 28) (.tmp 37) 22 rfl w.heap.size 5 (.int .u8 0) 1 Try.underlying22 info_u8 rfl _ 40 (c8 (wordBytes (wordsOf s.1)) ++ c8 (beBytes n 8)) rfl (hS3.own 0 rfl) (some ⟨g, 9, none⟩) m 64 (c8 s.2) rfl (.inr ⟨_, rfl, fun j u hj => ?_⟩) (by rw [c8_length, HT.out]) (one8 _) (by unfold maxLen; omega) (by omega) hS3.size ?_
      · have hjl : j < s.2.length := by have := (List.getElem?_eq_some_iff.1 hj).1; simpa using this
        rw [addr_add]
        have h1 := (has_tail (hs.grown hS3.grown (by simp))).2 j hjl
        rw [h1, ← hj, c8_get _ j hjl]
      intro v2 w3 ho3 hg3 hv3
      have hS4 := hS3.append 0 rfl ho3 hg3 hv3
      clear hS3 ho3 hg3 hv3
      refine wpMix_next (fun _ => hS4.sub (List.nil_sublist _)) ?_
      refine wpMix_loud _ rfl rfl ?_
      go_wp2_with fail
      refine wpMix_next' (fun _ => hS4.sub (List.nil_sublist _)) ?_
      unfold wpMix
      go_wp2
      go_ret
      refine ⟨_, rfl, ?_, hS4.grown⟩
      have h1 := hS4.own 0 rfl
      have h2 : c8 (wordBytes (wordsOf s.1)) ++ c8 (beBytes n 8) ++ c8 s.2 = c8 (saveOf s n) := by show _ = c8 (wordBytes (wordsOf s.1) ++ beBytes n 8 ++ s.2); simp only [c8, List.map_append]
      rw [h2] at h1
      exact (show w3.ownsRow w.heap.size 5 1 v2 (40 + m) (c8 (saveOf s n)) from h1) |> fun h => by rw [HT.out]; exact h

set_option maxRecDepth 100000 in
set_option maxHeartbeats 2000000 in
theorem rsave_any (n c0 : Nat) (A : Option Addr) (v : V8) (t : List UInt8) (w : World) (ht : Bytes w A t) (hA : A = none → c0 = 0) (htl : t.length < 64) (hn : n ≤ 2305843009213693951) :
    Calls Try.prog 26 #[.agg (rsCells v n (.slice A t.length c0)).toArray] w
      fun e w' => ∃ v', e = .returned v' ∧ w'.ownsRow w.heap.size 5 1 v' (40 + t.length) (c8 (saveOf (v, t) n)) ∧ w.grownBy w' none := by
  go_enter Try.func26, Try.ntmps26
  go_wp2_with (refine wp_box (o := ⟨some 1, _, _, _, _, _⟩) rfl 46 (.tmp 0) rfl (rsCells v n (.slice A t.length c0)) rfl ?_)
  intro w1 hr hg hz
  clear hz
  have hS1 := (Own.start w).new hr hg
  clear hr hg
  go_wp2
  go_loopw [3, 4] (fun sv iv wr => ∃ k : Nat, k ≤ 8 ∧ iv = .int .i64 k ∧ Own w wr [ownE w.heap.size 5 sv (4 * k) (c8 (wordBytes ((wordsOf v).take k))), rowE w.heap.size 46 (rsCells v n (.slice A t.length c0))]) (fun _ iv _ => 8 - (intOf iv).toNat)
  case atStart => exact ⟨0, by omega, rfl, by simpa [c8, wordBytes] using hS1.nilRow w.heap.size 5⟩
  case round =>
    clear hS1
    obtain ⟨k, hk, rfl, hS⟩ := hrel
    by_cases hlt8 : k < 8
    · obtain ⟨y, hy⟩ : ∃ y, y = (wordsOf v).getD k 0 := ⟨_, rfl⟩
      have ck := ((hS.row 1 rfl).cell k).trans (rs_cell v n _ k hlt8)
      rw [← hy] at ck
      have b1 := n32_lo y
      have b2 := n32_hi y
      have HW := Lib.hid (show wordBytes ((wordsOf v).take (k + 1)) = wordBytes ((wordsOf v).take k) ++ beBytes y.toNat 4 by rw [take_snoc32 _ k (by simp [wordsOf]; exact hlt8), ← hy, wordBytes_snoc])
      have q1 : (k : Int) < 8 := by omega
      clear hy
      go_wp2_with fail
      refine (rput_any _ _ y.toNat 4 _ rfl rfl (by omega) (by omega) (by have := y.toNat_lt; omega)).mono ?_
      rintro e w2 ⟨pv, rfl, ho, hg⟩
      have hS1 := hS.made ho hg
      have hsz : wr.heap.size ≤ w2.heap.size := hg.size
      clear hS hg ck
      obtain ⟨gp, cap, rfl, _, _, _, _, hcell⟩ := own_form ho (by omega)
      have HC := Lib.hid hcell
      clear ho hcell
      have hbo := own_block (hS1.own 1 rfl)
      go_wp2_with (refine wp_append1 rfl (.tmp 9) (.tmp 15) 22 rfl w.heap.size 5 (.int .u8 0) 1 Try.underlying22 info_u8 rfl _ (4 * k) (c8 (wordBytes ((wordsOf v).take k))) rfl (hS1.own 1 rfl) _ 4 cap (c8 (beBytes y.toNat 4)) rfl (.inr ⟨_, rfl, fun j u hj => by rw [addr_add, Nat.zero_add]; exact HC.out j u hj⟩) (by simp [beBytes_length]) (one8 _) (by unfold maxLen; omega) (by omega) hS1.size ?_)
      intro v' w3 ho3 hg3 hv3
      have hap : c8 (wordBytes ((wordsOf v).take k)) ++ c8 (beBytes y.toNat 4) = c8 (wordBytes ((wordsOf v).take (k + 1))) := by rw [HW.out]; simp [c8]
      rw [hap, show 4 * k + 4 = 4 * (k + 1) from by omega] at ho3
      have hS2 := (hS1.append 1 rfl ho3 hg3 hv3).tail
      clear hS1 ho3 hg3 hv3 hbo hap
      go_wp2
      go_roundw
      case rel => exact ⟨k + 1, by omega, by go_num, hS2⟩
      case measure => simp [intOf]; omega
    · have hke : k = 8 := by omega
      rw [hke, List.take_of_length_le (by simp [wordsOf])] at hS
      have c8' : wr.cell? ⟨w.heap.size, 8, none⟩ = some (.int .u64 (n : Int)) := (hS.row 1 rfl).cell 8
      have q1 : (8 : Int) ≤ k := by omega
      clear hlt8 hk hke
      go_wp2_with fail
      refine (rput_any _ _ n 8 _ rfl rfl (by omega) (by omega) (by omega)).mono ?_
      rintro e w2 ⟨pv, rfl, ho, hg⟩
      have hS1 := hS.made ho hg
      clear hS hg c8'
      obtain ⟨gp, cap, rfl, _, _, _, _, hcell⟩ := own_form ho (by omega)
      have HC := Lib.hid hcell
      clear ho hcell
      go_wp2_with (refine wp_append1 rfl (.tmp 17) (.tmp 20) 22 rfl w.heap.size 5 (.int .u8 0) 1 Try.underlying22 info_u8 rfl _ 32 (c8 (wordBytes (wordsOf v))) rfl (hS1.own 1 rfl) _ 8 cap (c8 (beBytes n 8)) rfl (.inr ⟨_, rfl, fun j u hj => by rw [addr_add, Nat.zero_add]; exact HC.out j u hj⟩) (by simp [beBytes_length]) (one8 _) (by unfold maxLen; omega) (by omega) hS1.size ?_)
      intro v' w3 ho3 hg3 hv3
      have hS2 := (hS1.append 1 rfl ho3 hg3 hv3).tail
      clear hS1 ho3 hg3 hv3
      have c9' : w3.cell? ⟨w.heap.size, 9, none⟩ = some (.slice A t.length c0) := (hS2.row 1 rfl).cell 9
      have hb2 := Lib.hid (bytes_src (ht.keep hS2.grown) hA)
      go_wp2_with (refine wp_append1 rfl (.tmp 22) (.tmp 24) 22 rfl w.heap.size 5 (.int .u8 0) 1 Try.underlying22 info_u8 rfl _ 40 (c8 (wordBytes (wordsOf v)) ++ c8 (beBytes n 8)) rfl (hS2.own 0 rfl) _ t.length c0 (c8 t) rfl hb2.out (c8_length t) (one8 _) (by unfold maxLen; omega) (by omega) hS2.size ?_)
      intro v4 w4 ho4 hg4 hv4
      have hS3 := hS2.append 0 rfl ho4 hg4 hv4
      clear hS2 ho4 hg4 hv4
      go_wp2
      go_ret
      refine ⟨_, rfl, ?_, hS3.grown⟩
      have h1 := hS3.own 0 rfl
      have h2 : c8 (wordBytes (wordsOf v)) ++ c8 (beBytes n 8) ++ c8 t = c8 (saveOf (v, t) n) := by show _ = c8 (wordBytes (wordsOf v) ++ beBytes n 8 ++ t); simp only [c8, List.map_append]
      rw [← List.append_assoc, h2] at h1
      exact h1
end Go.Proofs.Ytgagpbbmlpbjpaa
