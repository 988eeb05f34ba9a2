/- The contract of the document's Load. -/
import Derived.Test.YtgagpbbmlpbjpaaLoad
import Derived.Test.YtgagpbbmlpbjpaaParse
namespace Go.Proofs.Ytgagpbbmlpbjpaa
open Go.RowKit

def rsTail0 : List Value := [.int .u64 0, .slice none 0 0]
theorem zrs_eq : zrs = c32 (List.replicate 8 0) ++ rsTail0 := rfl
theorem info_rs (ws : List UInt32) (n : Value) (sl : Value) (h : ws.length = 8) : (Try.prog.info? 46).map (·.size) = some (c32 ws ++ [n, sl]).length := by
  rw [List.length_append, c32_length, h]; kernel_rfl
theorem zrs_one : ∀ u ∈ zrs, u.oneCell' = true := by decide
/-- What Load answers. -/
def RLoadPost (b : List UInt8) (w : World) (e : Ending) (w' : World) : Prop :=
  (LoadOk b ∧ ∃ (A' : Option Addr) (c' : Nat), e = .returned (.tuple #[.agg (rsCells (loadS b).1 (nIn b) (.slice A' (loadS b).2.length c')).toArray, .int .i64 0]) ∧
      w'.ownsRow w.heap.size 5 1 (.slice A' (loadS b).2.length c') (loadS b).2.length (c8 (loadS b).2) ∧ w.grownBy w' none) ∨
    (¬ LoadOk b ∧ e = .returned (.tuple #[.agg zrs.toArray, .int .i64 10]) ∧ w.grownBy w' none)
set_option maxRecDepth 100000 in
set_option maxHeartbeats 1000000 in
theorem rload_short (c : Nat) (A : Option Addr) (l : Nat) (w : World) (h : l < 40) :
    Calls Try.prog 36 #[.slice A l c] w fun e w' => e = .returned (.tuple #[.agg zrs.toArray, .int .i64 9]) ∧ w.grownBy w' none := by
  go_enter Try.func36, Try.ntmps36
  go_wp2_with (refine wp_alloc (o := ⟨some 2, _, _, _, _, _⟩) rfl 46 rfl _ alloc_rs ?_)
  intro w1 hr hg hz
  clear hz
  have hS1 := (Own.start w).new hr hg
  clear hr hg
  go_wp2_with (first | (refine wp_val (o := ⟨some 8, _, _, _, _, _⟩) rfl (.agg zrs.toArray) ?_ ?_; · kernel_rfl) | (refine wp_alloc (o := ⟨some 4, _, _, _, _, _⟩) rfl 46 rfl _ alloc_rs ?_))
  intro w2 hr hg hz
  clear hz
  have hS2 := hS1.new hr hg
  clear hr hg hS1
  go_wp2_with (refine wp_storeAgg rfl 46 (.tmp 4) (.tmp 8) rfl w1.heap.size 0 46 zrs zrs rfl rfl (hS2.row 0 rfl) (by kernel_rfl) (by decide) zrs_one ?_)
  intro w3 hr hg hz
  clear hz
  rw [splice_all rfl] at hr
  have hS3 := hS2.setRow 0 rfl hr hg
  clear hr hg hS2
  go_wp2_with (first | (refine wp_load rfl 46 (.tmp 4) rfl Try.underlying46 rfl ⟨w1.heap.size, 0, none⟩ rfl zrs (by kernel_rfl) (row_all (hS3.row 0 rfl)) ?_) | (refine wp_storeAgg rfl 46 (.tmp 2) (.tmp 12) rfl w.heap.size 0 46 zrs zrs rfl rfl (hS3.row 1 rfl) (by kernel_rfl) (by decide) zrs_one ?_))
  intro w4 hr hg hz
  clear hz
  rw [splice_all rfl] at hr
  have hS4 := hS3.setRow 1 rfl hr hg
  go_wp2
  exact bodyPost_ret (v := .tuple #[.agg zrs.toArray, .int .i64 9]) (results_row_tmp rfl _ _ w.heap.size _ _ rfl hr Try.underlying46 rfl (by kernel_rfl) rfl) rfl ⟨rfl, hS4.grown⟩
set_option maxRecDepth 100000 in
set_option maxHeartbeats 4000000 in
theorem rload_any (c : Nat) (A : Option Addr) (b : List UInt8) (w : World) (hb : Bytes w A b) (hc : b.length ≤ c) (hc2 : c ≤ 9223372036854775807) (h40 : 40 ≤ b.length) :
    Calls Try.prog 36 #[.slice A b.length c] w (RLoadPost b w) := by
  go_enter Try.func36, Try.ntmps36
  go_wp2_with (refine wp_alloc (o := ⟨some 2, _, _, _, _, _⟩) rfl 46 rfl _ alloc_rs ?_)
  intro w1 hr hg hz
  clear hz
  have hS1 := (Own.start w).new hr hg
  clear hr hg
  go_wp2_with (first | (refine wp_val (o := ⟨some 8, _, _, _, _, _⟩) rfl (.agg zrs.toArray) ?_ ?_; · kernel_rfl) | (refine wp_alloc (o := ⟨some 4, _, _, _, _, _⟩) rfl 46 rfl _ alloc_rs ?_))
  intro w2 hr hg hz
  clear hz
  have hS2 := hS1.new hr hg
  clear hr hg hS1
  go_wp2_with (refine wp_storeAgg rfl 46 (.tmp 4) (.tmp 8) rfl w1.heap.size 0 46 zrs zrs rfl rfl (hS2.row 0 rfl) (by kernel_rfl) (by decide) zrs_one ?_)
  intro w3 hr hg hz
  clear hz
  rw [splice_all rfl] at hr
  have hS3 : Own w w3 [rowE w1.heap.size 46 (c32 (mixW (wordsIn b) (List.replicate 8 0) 0) ++ rsTail0), rowE w.heap.size 46 zrs] := by rw [mixW_zero]; exact hS2.setRow 0 rfl hr hg
  clear hr hg hS2
  go_wp2
  go_loopw [5] (fun iv wr => ∃ k : Nat, k ≤ 8 ∧ iv = .int .i64 k ∧ Own w wr [rowE w1.heap.size 46 (c32 (mixW (wordsIn b) (List.replicate 8 0) k) ++ rsTail0), rowE w.heap.size 46 zrs]) (fun iv _ => 8 - (intOf iv).toNat)
  case atStart => exact ⟨0, by omega, rfl, hS3⟩
  case round =>
    clear hS3
    obtain ⟨k, hk, rfl, hS⟩ := hrel
    by_cases hlt : k < 8
    · have hml := mixW_length (wordsIn b) (List.replicate 8 0) k (wordsIn_length b) (by simp) hk
      have c0 := ((hS.row 0 rfl).cell k).trans (row_cell_words (tail := rsTail0) (show k < (mixW (wordsIn b) (List.replicate 8 0) k).length by omega))
      have f0 := (hS.row 0 rfl).frozen k
      have hset := row_set_words (tail := rsTail0) (x := wordIn b (4 * k)) (show k < (mixW (wordsIn b) (List.replicate 8 0) k).length by omega)
      rw [← wordsIn_get b k hlt, mixW_set _ _ k (wordsIn_length b) (by simp) hlt, wordsIn_get b k hlt] at hset
      have HSET := Lib.hid hset
      obtain ⟨A2, hmid, hA2⟩ := run_mid8 (P := Try.prog) Try.underlying22 (e := 5) (by kernel_rfl) A b.length c (4 * k) (4 * k + 4) (by omega) (by omega) hc
      rw [show ((4 * k : Nat) : Int) = 4 * (k : Int) by omega, show ((4 * k + 4 : Nat) : Int) = 4 * (k : Int) + 4 by omega, show 4 * k + 4 - 4 * k = 4 by omega] at hmid
      rw [show 4 * k + 4 - 4 * k = 4 by omega] at hA2
      have hgt := rget_any (c - 4 * k) A2 ((b.drop (4 * k)).take 4) wr (hA2 wr b rfl (hb.keep hS.grown)) (by simp; omega)
      rw [show ((b.drop (4 * k)).take 4).length = 4 by simp; omega, ← wordIn_n b (4 * k) (by omega)] at hgt
      obtain ⟨x, hx⟩ : ∃ x, x = wordIn b (4 * k) := ⟨_, rfl⟩
      rw [← hx] at hgt HSET
      have HG := Lib.hid hgt
      have x1 := n32_lo x
      have x2 := n32_hi x
      have q1 : (k : Int) < 8 := by omega
      clear hml hset hx hgt hA2
      go_wp2_with fail
      refine HG.out.mono ?_
      rintro e w' ⟨rfl, rfl⟩
      go_wp2
      go_roundw
      case rel =>
        refine ⟨k + 1, by omega, by go_num, ?_⟩
        have hS2 := hS.set 0 rfl k (.int .u32 (n32 x))
        rw [HSET.out] at hS2
        exact hS2
      case measure => simp [intOf]; omega
    · have hke : k = 8 := by omega
      rw [hke, mixW_all _ _ (wordsIn_length b) (by simp)] at hS
      have q1 : (8 : Int) ≤ k := by omega
      clear hke hlt hk
      obtain ⟨A2, hmid, hA2⟩ := run_mid8 (P := Try.prog) Try.underlying22 (e := 5) (by kernel_rfl) A b.length c 32 40 (by omega) h40 hc
      rw [show ((32 : Nat) : Int) = 32 from rfl, show ((40 : Nat) : Int) = 40 from rfl, show 40 - 32 = 8 from rfl] at hmid
      rw [show 40 - 32 = 8 from rfl] at hA2
      have hgt := rget_any (c - 32) A2 ((b.drop 32).take 8) wr (hA2 wr b rfl (hb.keep hS.grown)) (by simp; omega)
      rw [show ((b.drop 32).take 8).length = 8 by simp; omega] at hgt
      have hN := beNat_lt 8 ((b.drop 32).take 8) (by simp; omega)
      obtain ⟨N, hNN⟩ : ∃ N, N = nIn b := ⟨_, rfl⟩
      rw [show beNat ((b.drop 32).take 8) = N from hNN.symm] at hgt hN
      have hN2 : N ≤ 18446744073709551615 := by
        have : (256 : Nat) ^ 8 = 18446744073709551616 := by decide
        omega
      have HG := Lib.hid hgt
      have HNN := Lib.hid hNN
      have c8' : wr.cell? ⟨w1.heap.size, 8, none⟩ = some (.int .u64 0) := (hS.row 0 rfl).cell 8
      have f8' := (hS.row 0 rfl).frozen 8
      obtain ⟨A4, hfrom, hA40, hA4⟩ := run_from8 (P := Try.prog) Try.underlying22 (e := 5) (by kernel_rfl) A b.length c 40 h40 hc
      rw [show ((40 : Nat) : Int) = 40 from rfl] at hfrom
      have HA4 := Lib.hid hA4
      clear hgt hN hNN hA2 hA4 hA40
      go_wp2_with fail
      refine HG.out.mono ?_
      rintro e w3 ⟨rfl, rfl⟩
      have hS2 := hS.set 0 rfl 8 (.int .u64 (N : Int))
      have hrow : (c32 (wordsIn b) ++ rsTail0).set 8 (.int .u64 (N : Int)) = rsCells (v8of (wordsIn b)) N (.slice none 0 0) := by
        unfold rsCells rsTail0
        rw [wordsOf_v8of _ (wordsIn_length b), List.set_append_right _ _ (by simp [wordsIn_length])]
        simp [wordsIn_length]
      rw [hrow] at hS2
      clear hS hmid hrow
      by_cases hok : LoadOk b
      · have hbig : N ≤ 2305843009213693951 := by rw [HNN.out]; exact hok.2.1
        have hlen : b.length = 40 + N % 64 := by rw [HNN.out]; exact hok.2.2
        have t1 : decide ((2305843009213693951 : Int) < (N : Int)) = false := by simp; omega
        have t2 : ((b.length : Int) - 40 != (N : Int) % 64) = false := by simp; omega
        have HLN := Lib.hid hlen
        clear hlen
        have htw := fun W (hW : Bytes W A b) => twin_any (c - 40) A4 (b.drop 40) W (HA4.out _ b rfl hW) (by simp; have := HLN.out; omega)
        rw [List.length_drop] at htw
        have HTW := Lib.hid htw
        clear htw
        go_wp2_with fail
        refine (HTW.out _ (hb.keep hS2.grown)).mono ?_
        rintro e w4 ⟨v4, rfl, ho, hg⟩
        have hS3 := hS2.call hg
        have hl2 : (loadS b).2.length = b.length - 40 := by simp [loadS]
        have ho2 : w4.ownsRow w.heap.size 5 1 v4 (loadS b).2.length (c8 (loadS b).2) := by
          rw [hl2]
          exact own_base ho hS2.size
        have hbk := own_block ho
        obtain ⟨A5, c5, rfl, _⟩ := own_bytes ho2
        have c9 : w4.cell? ⟨w1.heap.size, 9, none⟩ = some (.slice none 0 0) := (hS3.row 0 rfl).cell 9
        have f9 := (hS3.row 0 rfl).frozen 9
        have hlt1 : w1.heap.size < (wr.setCell ⟨w1.heap.size, 8, none⟩ (.int .u64 (N : Int))).heap.size := hS2.lt 0 rfl rfl
        have hne : ∀ g, g < (wr.setCell ⟨w1.heap.size, 8, none⟩ (.int .u64 (N : Int))).heap.size → (Value.slice A5 (loadS b).2.length c5).ownBlock = none ∨ (Value.slice A5 (loadS b).2.length c5).ownBlock ≠ some g := fun g hgl => by
          rcases hbk with h | ⟨q, h, hq⟩
          · exact .inl h
          · exact .inr (by rw [h]; intro e; injection e; omega)
        have hS4 := hS3.set 0 rfl 9 (.slice A5 (loadS b).2.length c5)
        have HO := Lib.hid (own_keep ho2 (grownBy_set (grownBy_refl w4 (some w1.heap.size)) (p := ⟨w1.heap.size, 9, none⟩) (.inr rfl) (.slice A5 (loadS b).2.length c5)) (hne _ hlt1))
        have hlt0 : w.heap.size < (wr.setCell ⟨w1.heap.size, 8, none⟩ (.int .u64 (N : Int))).heap.size := hS2.lt 1 rfl rfl
        have HNE := Lib.hid (hne _ hlt0)
        have hrs : (rsCells (v8of (wordsIn b)) N (.slice none 0 0)).set 9 (.slice A5 (loadS b).2.length c5) = rsCells (loadS b).1 N (.slice A5 (loadS b).2.length c5) := rfl
        rw [hrs] at hS4
        clear hS2 hS3 hg ho ho2 hbk hne hl2 hfrom HTW hrs hlt1 hlt0
        go_wp2_with (first | (refine wp_load rfl 46 (.tmp 4) rfl Try.underlying46 rfl ⟨w1.heap.size, 0, none⟩ rfl (rsCells (loadS b).1 N (.slice A5 (loadS b).2.length c5)) (rs_info _ _ _) (row_all (hS4.row 0 rfl)) ?_) | (refine wp_storeAgg rfl 46 (.tmp 2) (.tmp 58) rfl w.heap.size 0 46 zrs (rsCells (loadS b).1 N (.slice A5 (loadS b).2.length c5)) rfl rfl (hS4.row 1 rfl) (rs_info _ _ _) (by simp [rsCells, wordsOf, zrs]) (rs_one _ _ _ _ _) ?_))
        intro w5 hr hg hz
        clear hz
        rw [splice_all (by simp [rsCells, wordsOf, zrs])] at hr
        have hS5 := hS4.setRow 1 rfl hr hg
        go_wp2
        refine bodyPost_ret (v := .tuple #[.agg (rsCells (loadS b).1 N (.slice A5 (loadS b).2.length c5)).toArray, .int .i64 0]) (results_row_tmp rfl _ _ w.heap.size _ _ rfl hr Try.underlying46 rfl (rs_info _ _ _) rfl) rfl (.inl ⟨hok, A5, c5, ?_, own_keep HO.out hg HNE.out, hS5.grown⟩)
        rw [HNN.out]
      · clear hfrom
        by_cases hbig : N ≤ 2305843009213693951
        · have hlen : b.length ≠ 40 + N % 64 := fun h => hok ⟨h40, by rw [← HNN.out]; exact hbig, by rw [← HNN.out]; exact h⟩
          have t1 : decide ((2305843009213693951 : Int) < (N : Int)) = false := by simp; omega
          have t2 : ((b.length : Int) - 40 != (N : Int) % 64) = true := by rw [bne_iff_ne]; omega
          clear hlen
          go_wp2_with (first | (refine wp_val (o := ⟨some 53, _, _, _, _, _⟩) rfl (.agg zrs.toArray) ?_ ?_; · kernel_rfl) | (refine wp_storeAgg rfl 46 (.tmp 2) (.tmp 53) rfl w.heap.size 0 46 zrs zrs rfl rfl (hS2.row 1 rfl) (by kernel_rfl) (by decide) zrs_one ?_))
          intro w5 hr hg hz
          clear hz
          rw [splice_all rfl] at hr
          have hS5 := hS2.setRow 1 rfl hr hg
          go_wp2
          exact bodyPost_ret (v := .tuple #[.agg zrs.toArray, .int .i64 10]) (results_row_tmp rfl _ _ w.heap.size _ _ rfl hr Try.underlying46 rfl (by kernel_rfl) rfl) rfl (.inr ⟨hok, rfl, hS5.grown⟩)
        · have t1 : decide ((2305843009213693951 : Int) < (N : Int)) = true := by simp; omega
          clear hbig
          go_wp2_with (first | (refine wp_val (o := ⟨some 53, _, _, _, _, _⟩) rfl (.agg zrs.toArray) ?_ ?_; · kernel_rfl) | (refine wp_storeAgg rfl 46 (.tmp 2) (.tmp 53) rfl w.heap.size 0 46 zrs zrs rfl rfl (hS2.row 1 rfl) (by kernel_rfl) (by decide) zrs_one ?_))
          intro w5 hr hg hz
          clear hz
          rw [splice_all rfl] at hr
          have hS5 := hS2.setRow 1 rfl hr hg
          go_wp2
          exact bodyPost_ret (v := .tuple #[.agg zrs.toArray, .int .i64 10]) (results_row_tmp rfl _ _ w.heap.size _ _ rfl hr Try.underlying46 rfl (by kernel_rfl) rfl) rfl (.inr ⟨hok, rfl, hS5.grown⟩)
end Go.Proofs.Ytgagpbbmlpbjpaa
