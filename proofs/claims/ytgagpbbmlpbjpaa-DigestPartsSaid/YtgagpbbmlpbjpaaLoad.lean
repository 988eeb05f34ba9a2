/- The contract of digest.Load. -/
import Derived.Test.YtgagpbbmlpbjpaaGet
import Derived.Test.YtgagpbbmlpbjpaaSave
namespace Go.Proofs.Ytgagpbbmlpbjpaa
open Go.RowKit

theorem trivial_own {w0 w : World} {L : List Ent} (h : Own w0 w L) : Own w0 w [] := h.sub (List.nil_sublist _)
def wordsIn (b : List UInt8) : List UInt32 := (List.range 8).map fun i => wordIn b (4 * i)
theorem wordsIn_length (b : List UInt8) : (wordsIn b).length = 8 := by simp [wordsIn]
def v8of (ws : List UInt32) : V8 := ⟨ws.getD 0 0, ws.getD 1 0, ws.getD 2 0, ws.getD 3 0, ws.getD 4 0, ws.getD 5 0, ws.getD 6 0, ws.getD 7 0⟩
theorem wordsOf_v8of (ws : List UInt32) (h : ws.length = 8) : wordsOf (v8of ws) = ws := by
  match ws, h with
  | [a, b, c, d, e, f, g, h], _ => rfl
def nIn (b : List UInt8) : Nat := beNat ((b.drop 32).take 8)
/-- the state that bytes are -/
def loadS (b : List UInt8) : V8 × List UInt8 := (v8of (wordsIn b), b.drop 40)
def LoadOk (b : List UInt8) : Prop := 40 ≤ b.length ∧ nIn b ≤ 2305843009213693951 ∧ b.length = 40 + nIn b % 64
/-- the first k words new, the others as they were -/
def mixW (new old : List UInt32) (k : Nat) : List UInt32 := new.take k ++ old.drop k
theorem mixW_zero (new old : List UInt32) : mixW new old 0 = old := by simp [mixW]
theorem mixW_length (new old : List UInt32) (k : Nat) (h1 : new.length = 8) (h2 : old.length = 8) (hk : k ≤ 8) : (mixW new old k).length = 8 := by simp [mixW]; omega
theorem mixW_all (new old : List UInt32) (h1 : new.length = 8) (h2 : old.length = 8) : mixW new old 8 = new := by
  simp [mixW]; rw [List.take_of_length_le (by omega), List.drop_of_length_le (by omega)]; simp
theorem mixW_set (new old : List UInt32) (k : Nat) (h1 : new.length = 8) (h2 : old.length = 8) (hk : k < 8) : (mixW new old k).set k (new.getD k 0) = mixW new old (k + 1) := by
  unfold mixW
  rw [List.set_append_right _ _ (by simp; omega), take_snoc32 new k (by omega), List.append_assoc]
  congr 1
  have hk2 : k < old.length := by omega
  have e1 := List.drop_eq_getElem_cons hk2
  rw [show k - (new.take k).length = 0 by simp; omega, e1, List.set_cons_zero]
  rfl
theorem row_set_words {ws : List UInt32} {tail : List Value} {k : Nat} {x : UInt32} (h : k < ws.length) : (c32 ws ++ tail).set k (.int .u32 (n32 x)) = c32 (ws.set k x) ++ tail := by
  rw [List.set_append_left _ _ (by simpa using h), c32_set]
theorem row_cell_words {ws : List UInt32} {tail : List Value} {k : Nat} (h : k < ws.length) : (c32 ws ++ tail)[k]? = some (.int .u32 (n32 (ws.getD k 0))) := by
  rw [List.getElem?_append_left (by simpa using h), c32_get ws k h]
theorem wordsIn_get (b : List UInt8) (k : Nat) (h : k < 8) : (wordsIn b).getD k 0 = wordIn b (4 * k) := by
  simp [wordsIn, List.getD_eq_getElem?_getD, List.getElem?_map, h]
def stTail0 : List Value := .int .u64 0 :: c8 (List.replicate 64 0)

set_option maxRecDepth 100000 in
theorem load_short (c : Nat) (A : Option Addr) (l : Nat) (w : World) (h : l < 40) :
    Calls Try.prog 35 #[.slice A l c] w fun e w' => e = .returned (.tuple #[.pointer none, .int .i64 9]) ∧ w = w' := by
  go_enter Try.func35, Try.ntmps35
  go_wp2
  go_ret2
  exact ⟨rfl, rfl⟩
/-- What Load answers where there are bytes enough. -/
def LoadPost (b : List UInt8) (w : World) (e : Ending) (w' : World) : Prop :=
  (LoadOk b ∧ e = .returned (.tuple #[.pointer (some ⟨w.heap.size, 0, none⟩), .int .i64 0]) ∧ Has w' w.heap.size (loadS b) (nIn b) ∧ w.grownBy w' none) ∨
    (¬ LoadOk b ∧ e = .returned (.tuple #[.pointer none, .int .i64 10]) ∧ w.grownBy w' none)
set_option maxRecDepth 100000 in
set_option maxHeartbeats 4000000 in
theorem load_any (c : Nat) (A : Option Addr) (b : List UInt8) (w : World) (hb : Bytes w A b) (hc : b.length ≤ c) (hc2 : c ≤ 9223372036854775807) (h40 : 40 ≤ b.length) :
    Calls Try.prog 35 #[.slice A b.length c] w (LoadPost b w) := by
  go_enter Try.func35, Try.ntmps35
  go_wp2_with fail
  refine (new_any _).mono ?_
  rintro e w2 ⟨rfl, hrw, hg⟩
  have hS2 : Own w w2 [rowE w.heap.size 80 (c32 (mixW (wordsIn b) (wordsOf begin0) 0) ++ stTail0)] := by rw [mixW_zero]; exact (Own.start w).new hrw hg
  clear hrw hg
  go_wp2
  go_loopw [10] (fun iv wr => ∃ k : Nat, k ≤ 8 ∧ iv = .int .i64 k ∧ Own w wr [rowE w.heap.size 80 (c32 (mixW (wordsIn b) (wordsOf begin0) k) ++ stTail0)]) (fun iv _ => 8 - (intOf iv).toNat)
  case atStart => exact ⟨0, by omega, rfl, hS2⟩
  case round =>
    clear hS2
    obtain ⟨k, hk, rfl, hS⟩ := hrel
    by_cases hlt : k < 8
    · have hml := mixW_length (wordsIn b) (wordsOf begin0) k (wordsIn_length b) rfl hk
      have HC0 := Lib.hid (row_cell_words (tail := stTail0) (show k < (mixW (wordsIn b) (wordsOf begin0) k).length by omega))
      have hset := row_set_words (tail := stTail0) (x := wordIn b (4 * k)) (show k < (mixW (wordsIn b) (wordsOf begin0) k).length by omega)
      rw [← wordsIn_get b k hlt, mixW_set _ _ k (wordsIn_length b) rfl hlt, wordsIn_get b k hlt] at hset
      have HSET := Lib.hid hset
      have hw := fun W (hW : Bytes W A b) => word_any c A b (4 * k) W hW hc hc2 (by omega)
      rw [show ((4 * k : Nat) : Int) = 4 * (k : Int) by omega] at hw
      obtain ⟨x, hx⟩ : ∃ x, x = wordIn b (4 * k) := ⟨_, rfl⟩
      rw [← hx] at hw HSET
      have HWD := Lib.hid hw
      have q1 : (k : Int) < 8 := by omega
      clear hml hset hw hx
      go_wp2
      have hS1 := hS.drew
      clear hS
      refine wp_region_mixC (fun W => Own w W []) (fun _ => true) [(0, true), (1, true), (2, true), (3, true), (4, true), (9, true), (10, true), (5, false), (6, true), (7, true), (8, true), (11, true), (12, false)] (by kernel_rfl) (by kernel_rfl) (hS1.sub (List.nil_sublist _)) ?_
      iterate 7 (refine wpMix_step rfl (fun K hK => ?_); go_simp; (try go_bits); with_reducible refine hK _ ?_; clear hK K)
      refine wpMix_loudW _ rfl rfl ?_
      go_wp2_with fail
      refine (HWD.out _ (hb.keep hS1.grown)).mono ?_
      rintro e w' ⟨rfl, rfl⟩
      go_wp2_with fail
      refine wpMix_next' (fun _ => trivial_own hS1) ?_
      iterate 4 (refine wpMix_step rfl (fun K hK => ?_); go_simp; (try go_bits); with_reducible refine hK _ ?_; clear hK K)
      refine wpMix_loudW _ rfl rfl ?_
      have c0 := ((hS1.row 0 rfl).cell k).trans HC0.out
      have f0 := (hS1.row 0 rfl).frozen k
      go_wp2_with fail
      have hS2 := hS1.set 0 rfl k (.int .u32 (n32 x))
      rw [HSET.out] at hS2
      clear hS1 c0 f0 HSET HC0 HWD
      refine wpMix_next' (fun _ => trivial_own hS2) ?_
      unfold wpMix
      go_wp2
      go_roundw
      case rel => exact ⟨k + 1, by omega, by go_num, hS2⟩
      case measure => simp [intOf]; omega
    · have hke : k = 8 := by omega
      rw [hke, mixW_all _ _ (wordsIn_length b) rfl] at hS
      have q1 : (8 : Int) ≤ k := by omega
      clear hke hlt hk
      obtain ⟨A2, hmid, hA2⟩ := run_mid8 (P := Try.prog) Try.underlying22 (e := 5) (by kernel_rfl) A b.length c 32 40 (by omega) h40 hc
      rw [show ((32 : Nat) : Int) = 32 from rfl, show ((40 : Nat) : Int) = 40 from rfl, show 40 - 32 = 8 from rfl] at hmid
      rw [show 40 - 32 = 8 from rfl] at hA2
      have hgt := get_any (c - 32) A2 ((b.drop 32).take 8) wr (hA2 wr b rfl (hb.keep hS.grown)) (by simp; omega)
      rw [show ((b.drop 32).take 8).length = 8 by simp; omega] at hgt
      have hN := beNat_lt 8 ((b.drop 32).take 8) (by simp; omega)
      obtain ⟨N, hNN⟩ : ∃ N, N = nIn b := ⟨_, rfl⟩
      rw [show beNat ((b.drop 32).take 8) = N from hNN.symm] at hgt hN
      have hN2 : N ≤ 18446744073709551615 := by
        have : (256 : Nat) ^ 8 = 18446744073709551616 := by decide
        omega
      have HG := Lib.hid hgt
      have HNN := Lib.hid hNN
      have c8' : wr.cell? ⟨w.heap.size, 8, none⟩ = some (.int .u64 0) := (hS.row 0 rfl).cell 8
      have f8' := (hS.row 0 rfl).frozen 8
      obtain ⟨A4, hfrom, _, hA4⟩ := run_from8 (P := Try.prog) Try.underlying22 (e := 5) (by kernel_rfl) A b.length c 40 h40 hc
      rw [show ((40 : Nat) : Int) = 40 from rfl] at hfrom
      have HA4 := Lib.hid hA4
      clear hgt hN hNN hA2 hA4
      go_wp2_with fail
      refine HG.out.mono ?_
      rintro e w3 ⟨rfl, rfl⟩
      have hS2 := hS.set 0 rfl 8 (.int .u64 (N : Int))
      have hrow : (c32 (wordsIn b) ++ stTail0).set 8 (.int .u64 (N : Int)) = stCells (v8of (wordsIn b)) N (List.replicate 64 0) := by
        unfold stCells stTail0
        rw [wordsOf_v8of _ (wordsIn_length b), List.set_append_right _ _ (by simp [wordsIn_length])]
        simp [wordsIn_length]
      rw [hrow] at hS2
      clear hS hmid hrow
      by_cases hbig : N ≤ 2305843009213693951
      · have t1 : decide ((2305843009213693951 : Int) < (N : Int)) = false := by simp; omega
        by_cases hlen : b.length = 40 + N % 64
        · have t2 : ((b.length : Int) != 40 + (N : Int) % 64) = false := by simp; omega
          have hok : LoadOk b := ⟨h40, by rw [← HNN.out]; exact hbig, by rw [← HNN.out]; exact hlen⟩
          have HLN := Lib.hid hlen
          clear hlen
          go_wp2
          have hS3 := hS2.drew
          clear hS2
          refine wp_region_mixC (fun W => Own w W []) (fun _ => true) [(0, true), (1, true), (2, true), (3, true), (4, true), (5, true), (6, false)] (by kernel_rfl) (by kernel_rfl) (hS3.sub (List.nil_sublist _)) ?_
          iterate 6 (refine wpMix_step rfl (fun K hK => ?_); go_simp; (try go_bits); with_reducible refine hK _ ?_; clear hK K)
          refine wpMix_loudW _ rfl rfl ?_
          refine wp_copy rfl (.tmp 55) (.tmp 57) 22 22 rfl 5 Try.underlying22 (by kernel_rfl) (some ⟨w.heap.size, 9, none⟩) A4 64 64 (b.length - 40) (c - 40) rfl rfl w.heap.size 9 (stCells (v8of (wordsIn b)) N (List.replicate 64 0)) 80 (hS3.row 0 rfl) (c8 (b.drop 40)) (by rw [c8_length, List.length_drop]; exact (Nat.min_eq_left (by have := HLN.out; omega)).symm) (fun hpos => ?_) (by rw [c8_length, List.length_drop, stCells_length _ _ _ (by simp)]; have := HLN.out; omega) (one8 _) ?_
          · have hb4 := HA4.out _ b rfl (hb.keep hS3.grown)
            obtain ⟨b4, off4, hA, _, hc4⟩ := hb4.at_ (by simpa using hpos)
            refine ⟨rfl, _, hA, fun j v hj => ?_⟩
            have hjl : j < (b.drop 40).length := by have := (List.getElem?_eq_some_iff.1 hj).1; simpa using this
            rw [addr_add, hc4 j hjl, ← hj, c8_get _ j hjl]
          intro w4 hr hg
          rw [st_splice _ _ _ _ (by simp; have := HLN.out; omega)] at hr
          have hS4 := hS3.setRow 0 rfl hr hg
          clear hS3 hg
          refine wpMix_next (fun _ => trivial_own hS4) ?_
          unfold wpMix
          go_wp2
          go_ret2
          refine .inl ⟨hok, rfl, ⟨b.drop 40 ++ (List.replicate 64 0).drop (b.drop 40).length, by simp; have := HLN.out; omega, ?_, ?_, ?_⟩, hS4.grown⟩
          · simp only [loadS, List.length_drop]; rw [← HNN.out]; have := HLN.out; omega
          · simp only [loadS]; rw [← HNN.out, List.take_append_of_le_length (by simp; have := HLN.out; omega), List.take_of_length_le (by simp; have := HLN.out; omega)]
          · simp only [loadS]; rw [← HNN.out]; exact hr
        · have t2 : ((b.length : Int) != 40 + (N : Int) % 64) = true := by rw [bne_iff_ne]; omega
          have hno : ¬ LoadOk b := fun h => hlen (by rw [HNN.out]; exact h.2.2)
          clear hlen
          go_wp2
          go_ret2
          exact .inr ⟨hno, rfl, hS2.grown⟩
      · have t1 : decide ((2305843009213693951 : Int) < (N : Int)) = true := by simp; omega
        have hno : ¬ LoadOk b := fun h => hbig (by rw [HNN.out]; exact h.2.1)
        go_wp2
        go_ret2
        exact .inr ⟨hno, rfl, hS2.grown⟩
end Go.Proofs.Ytgagpbbmlpbjpaa
