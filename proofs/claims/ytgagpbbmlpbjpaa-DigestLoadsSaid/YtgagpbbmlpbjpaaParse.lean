/- The contracts of Parse, the program's and the document's. -/
import Derived.Test.YtgagpbbmlpbjpaaUnhex
import Derived.Test.YtgagpbbmlpbjpaaDigestSaves
import Derived.Test.YtgagpbbmlpbjpaaDigestOrders
namespace Go.Proofs.Ytgagpbbmlpbjpaa
open Go.RowKit

section
variable {P : Program}
theorem results_row_tmp {fn : Func} {p u : Tmp} {ty : TypeId} (h : fn.results = #[.cell p ty, .tmp u]) (tmps : Array Value) (w : World) (g : Nat) (t : TypeId) (cs : List Value) {d : TypeDesc} (hp : tmps.getD p undef = .pointer (some ⟨g, 0, none⟩))
    (hg : Row w g t cs) (hu : P.underlying ty = some d) (hd : (match d with | .struct _ | .array _ _ => true | _ => false) = true) (hi : (P.info? ty).map (·.size) = some cs.length) {v2 : Value} (hv : tmps.getD u undef = v2) :
    (results fn tmps).run P w = .ok (.tuple #[.agg cs.toArray, v2]) w := by
  subst hv
  have hp' : tmps[p]?.getD undef = .pointer (some ⟨g, 0, none⟩) := by simpa using hp
  simp [results, h, hp', asAddr, run_loadVar_row w g t ty cs.toArray (0, 0) d hg hu hd (by simpa using hi)]
end
theorem ba_eq {s : ByteArray} {l : List UInt8} (h : s.data.toList = l) : s = ⟨l.toArray⟩ := by
  obtain ⟨⟨x⟩⟩ := s
  simp at h
  rw [h]
theorem run_slice_str_to (W : World) (l : List UInt8) (k : Nat) (h : k ≤ l.length) :
    (Instr.slice 9 (.string ⟨l.toArray⟩) none (some (.int .i64 (k : Int))) none).run Try.prog W = .ok (.string ⟨(l.take k).toArray⟩) W := by
  simp [go_sem, Instr.slice, run_underlying Try.underlying9]
  rw [if_pos h, ba_eq (Go.Lib.extract_data _ _ _)]
  simp
theorem run_slice_str_from (W : World) (l : List UInt8) (k : Nat) (h : k ≤ l.length) :
    (Instr.slice 9 (.string ⟨l.toArray⟩) (some (.int .i64 (k : Int))) none none).run Try.prog W = .ok (.string ⟨(l.drop k).toArray⟩) W := by
  simp [go_sem, Instr.slice, run_underlying Try.underlying9]
  rw [if_pos h, ba_eq (Go.Lib.extract_data _ _ _)]
  simp
  exact List.take_of_length_le (by simp)
theorem str_ne (a b : List UInt8) : ((⟨a.toArray⟩ : ByteArray).toList == (⟨b.toArray⟩ : ByteArray).toList) = decide (a = b) := by
  have e : ∀ x : List UInt8, (⟨x.toArray⟩ : ByteArray).toList = x := fun x => by
    rw [Go.Lib.toList_data]
  rw [e, e]
  rw [Bool.eq_iff_iff]; simp

/-- the sum that a text is -/
def parseL (l : List UInt8) : Option (List UInt8) := if l.length = 71 ∧ l.take 7 = textPre then unhexL (l.drop 7) else none
theorem unhexL_len : ∀ (l q : List UInt8), unhexL l = some q → l.length = 2 * q.length
  | [], q, h => by simp [unhexL] at h; rw [h]; rfl
  | [_], q, h => by simp [unhexL] at h
  | a :: b :: r, q, h => by
    rw [unhexL_two _ a b r rfl] at h
    split at h
    · simp only [Option.map_eq_some_iff] at h
      obtain ⟨x, hx, rfl⟩ := h
      have := unhexL_len r x hx
      simp; omega
    · cases h
theorem parseL_len {l q : List UInt8} (h : parseL l = some q) : q.length = 32 := by
  unfold parseL at h
  split at h
  · rename_i hc
    have := unhexL_len _ _ h
    simp at this; omega
  · cases h

def ParsePost (z : Value) (l : List UInt8) (w : World) (ok bad : Value) (e : Ending) (w' : World) : Prop :=
  (∃ q, parseL l = some q ∧ e = .returned (.tuple #[.agg (c8 q).toArray, ok]) ∧ w.grownBy w' none) ∨ (parseL l = none ∧ e = .returned (.tuple #[z, bad]) ∧ w.grownBy w' none)
def z32 : List UInt8 := List.replicate 32 0
theorem z32_length : z32.length = 32 := by simp [z32]
theorem info_dig (l : List UInt8) (h : l.length = 32) : (Try.prog.info? 25).map (·.size) = some (c8 l).length := by rw [c8_length, h]; kernel_rfl

set_option maxRecDepth 100000 in
set_option maxHeartbeats 2000000 in
theorem parse_any (l : List UInt8) (w : World) (hl : l.length ≤ 140737488351232) :
    Calls Try.prog 31 #[.string ⟨l.toArray⟩] w (ParsePost (.agg (c8 z32).toArray) l w (.int .i64 0) (.int .i64 10)) := by
  go_enter Try.func31, Try.ntmps31
  go_wp2_with (refine wp_alloc (o := ⟨some 2, _, _, _, _, _⟩) rfl 25 rfl _ alloc_d ?_)
  intro w1 hr hg hz
  clear hz
  have hS1 := (Own.start w).new hr hg
  clear hr hg
  go_wp2_with (refine wp_alloc (o := ⟨some 4, _, _, _, _, _⟩) rfl 25 rfl _ alloc_d ?_)
  intro w2 hr hg hz
  clear hz
  have hS2 : Own w w2 [rowE w1.heap.size 25 (c8 z32), rowE w.heap.size 25 (c8 z32)] := hS1.new hr hg
  clear hr hg hS1
  by_cases h71 : l.length = 71
  · have t0 : ((l.length : Int) != 71) = false := by simp; omega
    have hto := fun W => run_slice_str_to W l 7 (by omega)
    have hfrom := fun W => run_slice_str_from W l 7 (by omega)
    rw [show ((7 : Nat) : Int) = 7 from rfl] at hto hfrom
    by_cases hpre : l.take 7 = textPre
    · have t1 : (l.take 7 == [115, 104, 97, 50, 53, 54, 58]) = true := beq_iff_eq.2 hpre
      have hpl : parseL l = unhexL (l.drop 7) := by unfold parseL; rw [if_pos ⟨h71, hpre⟩]
      have HPL := Lib.hid hpl
      clear h71 hpre hpl
      go_wp2_with fail
      refine (unhex_any (l.drop 7) w2 (by simp; omega)).mono ?_
      rintro e w3 (⟨q, v', hq, rfl, ho, hg⟩ | ⟨hn, rfl, hg⟩)
      · have HP := Lib.hid (HPL.out.trans hq)
        have hq32 : q.length = 32 := parseL_len HP.out
        have hS3 := hS2.call hg
        obtain ⟨gq, cq, rfl, _, _, _, _, hcell⟩ := own_form ho (by omega)
        have HC := Lib.hid hcell
        have HQ := Lib.hid hq32
        clear hS2 hg ho hq hcell t1 hto hfrom t0 hq32 HPL
        go_wp2_with (refine wp_copy rfl (.tmp 26) (.tmp 27) 22 22 rfl 5 Try.underlying22 (by kernel_rfl) (some ⟨w1.heap.size, 0, none⟩) (some ⟨gq, 0, none⟩) 32 32 q.length cq rfl rfl w1.heap.size 0 (c8 z32) 25 (hS3.row 0 rfl) (c8 q) (by rw [c8_length, HQ.out]; rfl) (fun _ => ⟨rfl, _, rfl, fun j v hj => by rw [addr_add, Nat.zero_add]; exact HC.out j v hj⟩) (by rw [c8_length, HQ.out]; decide) (one8 _) ?_)
        intro w4 hr hg
        rw [splice_all (by rw [c8_length, c8_length, HQ.out]; decide)] at hr
        have hS4 := hS3.setRow 0 rfl hr hg
        clear hS3 hr hg HC
        go_wp2_with (first | (refine wp_load rfl 25 (.tmp 4) rfl Try.underlying25 rfl ⟨w1.heap.size, 0, none⟩ rfl (c8 q) (info_dig q HQ.out) (row_all (hS4.row 0 rfl)) ?_) | (refine wp_storeAgg rfl 25 (.tmp 2) (.tmp 29) rfl w.heap.size 0 25 (c8 z32) (c8 q) rfl rfl (hS4.row 1 rfl) (info_dig q HQ.out) (by simp [z32_length, HQ.out]) (one8 _) ?_))
        intro w9 hr hg hz
        clear hz
        rw [splice_all (by simp [z32_length, HQ.out])] at hr
        have hS9 := hS4.setRow 1 rfl hr hg
        go_wp2
        exact bodyPost_ret (v := .tuple #[.agg (c8 q).toArray, .int .i64 0]) (results_row_tmp rfl _ _ w.heap.size _ _ rfl hr Try.underlying25 rfl (info_dig q HQ.out) rfl) rfl (.inl ⟨_, HP.out, rfl, hS9.grown⟩)
      · have HP := Lib.hid (HPL.out.trans hn)
        have hS3 := hS2.call hg
        clear hS2 hg hn t1 hto hfrom t0 HPL
        go_wp2_with (first | (refine wp_load rfl 25 (.tmp 4) rfl Try.underlying25 rfl ⟨w1.heap.size, 0, none⟩ rfl (c8 z32) (info_dig z32 z32_length) (row_all (hS3.row 0 rfl)) ?_) | (refine wp_storeAgg rfl 25 (.tmp 2) (.tmp 24) rfl w.heap.size 0 25 (c8 z32) (c8 z32) rfl rfl (hS3.row 1 rfl) (info_dig z32 z32_length) (by simp [z32_length, z32_length]) (one8 _) ?_))
        intro w9 hr hg hz
        clear hz
        rw [splice_all (by simp [z32_length, z32_length])] at hr
        have hS9 := hS3.setRow 1 rfl hr hg
        go_wp2
        exact bodyPost_ret (v := .tuple #[.agg (c8 z32).toArray, .int .i64 10]) (results_row_tmp rfl _ _ w.heap.size _ _ rfl hr Try.underlying25 rfl (info_dig z32 z32_length) rfl) rfl (.inr ⟨HP.out, rfl, hS9.grown⟩)
    · have t1 : (l.take 7 == [115, 104, 97, 50, 53, 54, 58]) = false := by rw [beq_eq_false_iff_ne]; exact hpre
      have HP : Hid (parseL l = none) := Lib.hid (by unfold parseL; rw [if_neg (fun h => hpre h.2)])
      clear h71 hpre hfrom
      go_wp2_with (first | (refine wp_load rfl 25 (.tmp 4) rfl Try.underlying25 rfl ⟨w1.heap.size, 0, none⟩ rfl (c8 z32) (info_dig z32 z32_length) (row_all (hS2.row 0 rfl)) ?_) | (refine wp_storeAgg rfl 25 (.tmp 2) (.tmp 15) rfl w.heap.size 0 25 (c8 z32) (c8 z32) rfl rfl (hS2.row 1 rfl) (info_dig z32 z32_length) (by simp [z32_length, z32_length]) (one8 _) ?_))
      intro w9 hr hg hz
      clear hz
      rw [splice_all (by simp [z32_length, z32_length])] at hr
      have hS9 := hS2.setRow 1 rfl hr hg
      go_wp2
      exact bodyPost_ret (v := .tuple #[.agg (c8 z32).toArray, .int .i64 10]) (results_row_tmp rfl _ _ w.heap.size _ _ rfl hr Try.underlying25 rfl (info_dig z32 z32_length) rfl) rfl (.inr ⟨HP.out, rfl, hS9.grown⟩)
  · have t0 : ((l.length : Int) != 71) = true := by rw [bne_iff_ne]; omega
    have HP : Hid (parseL l = none) := Lib.hid (by unfold parseL; rw [if_neg (fun h => h71 h.1)])
    clear h71
    go_wp2_with (first | (refine wp_load rfl 25 (.tmp 4) rfl Try.underlying25 rfl ⟨w1.heap.size, 0, none⟩ rfl (c8 z32) (info_dig z32 z32_length) (row_all (hS2.row 0 rfl)) ?_) | (refine wp_storeAgg rfl 25 (.tmp 2) (.tmp 15) rfl w.heap.size 0 25 (c8 z32) (c8 z32) rfl rfl (hS2.row 1 rfl) (info_dig z32 z32_length) (by simp [z32_length, z32_length]) (one8 _) ?_))
    intro w9 hr hg hz
    clear hz
    rw [splice_all (by simp [z32_length, z32_length])] at hr
    have hS9 := hS2.setRow 1 rfl hr hg
    go_wp2
    exact bodyPost_ret (v := .tuple #[.agg (c8 z32).toArray, .int .i64 10]) (results_row_tmp rfl _ _ w.heap.size _ _ rfl hr Try.underlying25 rfl (info_dig z32 z32_length) rfl) rfl (.inr ⟨HP.out, rfl, hS9.grown⟩)

theorem fill32 (q : List UInt8) (k : Nat) (hq : q.length = 32) (h : k < 32) : (q.take k ++ List.replicate (32 - k) 0).set k (q.getD k 0) = q.take (k + 1) ++ List.replicate (32 - (k + 1)) 0 := by
  rw [set_fill (q.take k) k 32 _ (by simp; omega) h, take_snoc8 q k (by omega)]
set_option maxRecDepth 100000 in
set_option maxHeartbeats 2000000 in
theorem rparse_any (l : List UInt8) (w : World) (hl : l.length ≤ 140737488351232) :
    Calls Try.prog 32 #[.string ⟨l.toArray⟩] w (ParsePost (.agg (c8 z32).toArray) l w (.bool true) (.bool false)) := by
  go_enter Try.func32, Try.ntmps32
  go_wp2_with (refine wp_alloc (o := ⟨some 2, _, _, _, _, _⟩) rfl 24 rfl _ alloc_d32 ?_)
  intro w1 hr hg hz
  clear hz
  have hS1 := (Own.start w).new hr hg
  clear hr hg
  go_wp2_with (refine wp_alloc (o := ⟨some 4, _, _, _, _, _⟩) rfl 24 rfl _ alloc_d32 ?_)
  intro w2 hr hg hz
  clear hz
  have hS2 : Own w w2 [rowE w1.heap.size 24 (c8 z32), rowE w.heap.size 24 (c8 z32)] := hS1.new hr hg
  clear hr hg hS1
  by_cases h71 : l.length = 71
  · have t0 : ((l.length : Int) != 71) = false := by simp; omega
    have hto := fun W => run_slice_str_to W l 7 (by omega)
    have hfrom := fun W => run_slice_str_from W l 7 (by omega)
    rw [show ((7 : Nat) : Int) = 7 from rfl] at hto hfrom
    have H71 := Lib.hid h71
    clear h71
    go_wp2_with fail
    refine (runhex_any (l.drop 7) w2 (by simp; omega)).mono ?_
    rintro e w3 (⟨q, v', hq, rfl, ho, hg⟩ | ⟨hn, rfl, hg⟩)
    · have hS3 := (hS2.made ho hg).swap
      have hS4 : Own w w3 [rowE w1.heap.size 24 (c8 z32), ownsE w2.heap.size 5 1 v' q.length (c8 q), rowE w.heap.size 24 (c8 z32)] := hS3
      have hq32 : 2 * q.length = 64 := by have := unhexL_len _ _ hq; simp at this; have := H71.out; omega
      obtain ⟨gq, cq, rfl, _, _, _, hcm, _⟩ := own_form ho (by omega)
      have HQ := Lib.hid (show q.length = 32 by omega)
      have HU := Lib.hid hq
      unfold maxLen at hcm
      have q32 : (q.length : Int) ≤ 32 := by omega
      have q33 : (32 : Int) ≤ q.length := by omega
      clear hS2 hS3 hg ho hq hfrom t0 hq32
      by_cases hpre : l.take 7 = textPre
      · have t1 : (l.take 7 == [115, 104, 97, 50, 53, 54, 58]) = true := beq_iff_eq.2 hpre
        have HP : Hid (parseL l = some q) := Lib.hid (by unfold parseL; rw [if_pos ⟨H71.out, hpre⟩, HU.out])
        clear hpre
        go_wp2
        go_loopw [7] (fun iv wr => ∃ k : Nat, k ≤ 32 ∧ iv = .int .i64 k ∧ Own w wr [rowE w1.heap.size 24 (c8 (q.take k ++ List.replicate (32 - k) 0)), ownsE w2.heap.size 5 1 (.slice (some ⟨gq, 0, none⟩) q.length cq) q.length (c8 q), rowE w.heap.size 24 (c8 z32)]) (fun iv _ => 32 - (intOf iv).toNat)
        case atStart => exact ⟨0, by omega, rfl, by simpa [z32] using hS4⟩
        case round =>
          clear hS4
          obtain ⟨k, hk, rfl, hS⟩ := hrel
          by_cases hlt : k < 32
          · have c0 := own_cells (hS.owns 1 rfl) (by omega) k _ (c8_get q k (by omega))
            have c1 := ((hS.row 0 rfl).cell k).trans (c8_get _ k (by simp; omega))
            have f1 := (hS.row 0 rfl).frozen k
            have hset := Lib.hid (fill32 q k HQ.out hlt)
            obtain ⟨x, hx⟩ : ∃ x, x = q.getD k 0 := ⟨_, rfl⟩
            rw [← hx] at c0 hset
            have q1 : (k : Int) < 32 := by omega
            clear hx
            go_wp2
            go_roundw
            case rel =>
              refine ⟨k + 1, by omega, by go_num, ?_⟩
              have h1 := hS.set 0 rfl k (.int .u8 (n8 x))
              rw [c8_set, hset.out] at h1
              exact h1
            case measure => simp [intOf]; omega
          · have hke : k = 32 := by omega
            rw [hke, Nat.sub_self, List.take_of_length_le (by rw [HQ.out]; exact Nat.le_refl _)] at hS
            have hS5 : Own w wr [rowE w1.heap.size 24 (c8 q), ownsE w2.heap.size 5 1 (.slice (some ⟨gq, 0, none⟩) q.length cq) q.length (c8 q), rowE w.heap.size 24 (c8 z32)] := by simpa using hS
            have q1 : (32 : Int) ≤ k := by omega
            clear hke hlt hk hS
            go_wp2_with (first | (refine wp_load rfl 24 (.tmp 4) rfl Try.underlying24 rfl ⟨w1.heap.size, 0, none⟩ rfl (c8 q) (info_d32 q HQ.out) (row_all (hS5.row 0 rfl)) ?_) | (refine wp_storeAgg rfl 24 (.tmp 2) (.tmp 36) rfl w.heap.size 0 24 (c8 z32) (c8 q) rfl rfl (hS5.row 2 rfl) (info_d32 q HQ.out) (by simp [z32_length, HQ.out]) (one8 _) ?_))
            intro w9 hr hg hz
            clear hz
            rw [splice_all (by simp [z32_length, HQ.out])] at hr
            have hS9 := hS5.setRow 2 rfl hr hg
            go_wp2
            exact bodyPost_ret (v := .tuple #[.agg (c8 q).toArray, .bool true]) (results_row_tmp rfl _ _ w.heap.size _ _ rfl hr Try.underlying24 rfl (info_d32 q HQ.out) rfl) rfl (.inl ⟨_, HP.out, rfl, hS9.grown⟩)
      · have t1 : (l.take 7 == [115, 104, 97, 50, 53, 54, 58]) = false := by rw [beq_eq_false_iff_ne]; exact hpre
        have HP : Hid (parseL l = none) := Lib.hid (by unfold parseL; rw [if_neg (fun h => hpre h.2)])
        clear hpre
        go_wp2_with (first | (refine wp_load rfl 24 (.tmp 4) rfl Try.underlying24 rfl ⟨w1.heap.size, 0, none⟩ rfl (c8 z32) (info_d32 z32 z32_length) (row_all (hS4.row 0 rfl)) ?_) | (refine wp_storeAgg rfl 24 (.tmp 2) (.tmp 25) rfl w.heap.size 0 24 (c8 z32) (c8 z32) rfl rfl (hS4.row 2 rfl) (info_d32 z32 z32_length) (by simp [z32_length, z32_length]) (one8 _) ?_))
        intro w9 hr hg hz
        clear hz
        rw [splice_all (by simp [z32_length, z32_length])] at hr
        have hS9 := hS4.setRow 2 rfl hr hg
        go_wp2
        exact bodyPost_ret (v := .tuple #[.agg (c8 z32).toArray, .bool false]) (results_row_tmp rfl _ _ w.heap.size _ _ rfl hr Try.underlying24 rfl (info_d32 z32 z32_length) rfl) rfl (.inr ⟨HP.out, rfl, hS9.grown⟩)
    · have HP : Hid (parseL l = none) := Lib.hid (by unfold parseL; rw [hn]; exact ite_self none)
      have hS3 := hS2.call hg
      clear hS2 hg hn hfrom hto t0
      go_wp2_with (first | (refine wp_load rfl 24 (.tmp 4) rfl Try.underlying24 rfl ⟨w1.heap.size, 0, none⟩ rfl (c8 z32) (info_d32 z32 z32_length) (row_all (hS3.row 0 rfl)) ?_) | (refine wp_storeAgg rfl 24 (.tmp 2) (.tmp 25) rfl w.heap.size 0 24 (c8 z32) (c8 z32) rfl rfl (hS3.row 1 rfl) (info_d32 z32 z32_length) (by simp [z32_length, z32_length]) (one8 _) ?_))
      intro w9 hr hg hz
      clear hz
      rw [splice_all (by simp [z32_length, z32_length])] at hr
      have hS9 := hS3.setRow 1 rfl hr hg
      go_wp2
      exact bodyPost_ret (v := .tuple #[.agg (c8 z32).toArray, .bool false]) (results_row_tmp rfl _ _ w.heap.size _ _ rfl hr Try.underlying24 rfl (info_d32 z32 z32_length) rfl) rfl (.inr ⟨HP.out, rfl, hS9.grown⟩)
  · have t0 : ((l.length : Int) != 71) = true := by rw [bne_iff_ne]; omega
    have HP : Hid (parseL l = none) := Lib.hid (by unfold parseL; rw [if_neg (fun h => h71 h.1)])
    clear h71
    go_wp2_with (first | (refine wp_load rfl 24 (.tmp 4) rfl Try.underlying24 rfl ⟨w1.heap.size, 0, none⟩ rfl (c8 z32) (info_d32 z32 z32_length) (row_all (hS2.row 0 rfl)) ?_) | (refine wp_storeAgg rfl 24 (.tmp 2) (.tmp 11) rfl w.heap.size 0 24 (c8 z32) (c8 z32) rfl rfl (hS2.row 1 rfl) (info_d32 z32 z32_length) (by simp [z32_length, z32_length]) (one8 _) ?_))
    intro w9 hr hg hz
    clear hz
    rw [splice_all (by simp [z32_length, z32_length])] at hr
    have hS9 := hS2.setRow 1 rfl hr hg
    go_wp2
    exact bodyPost_ret (v := .tuple #[.agg (c8 z32).toArray, .bool false]) (results_row_tmp rfl _ _ w.heap.size _ _ rfl hr Try.underlying24 rfl (info_d32 z32 z32_length) rfl) rfl (.inr ⟨HP.out, rfl, hS9.grown⟩)
end Go.Proofs.Ytgagpbbmlpbjpaa
