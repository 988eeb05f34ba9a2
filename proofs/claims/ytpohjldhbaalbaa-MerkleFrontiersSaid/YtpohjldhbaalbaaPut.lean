/- The contract of (*State).put: bytes come in. -/
import Derived.Test.YtpohjldhbaalbaaBlock
import Derived.Test.YtpohjldhbaalbaaSmall
import Derived.Lib.Hide
namespace Go.Proofs.Ytpohjldhbaalbaa
set_option linter.unusedVariables false
set_option linter.unusedSimpArgs false
set_option linter.unusedSectionVars false
open Go.RowKit

/-- A slice of bytes at address A that reads as p, in a block that is not g. -/
def BytesOff (w : World) (g : Nat) (A : Option Addr) (p : List UInt8) : Prop := 0 < p.length → ∃ b off, A = some ⟨b, off, none⟩ ∧ b ≠ g ∧ BytesAt w b off p
/-- Block g is a State behind n bytes: its words and those behind the last whole block are s. -/
def Has (w : World) (g : Nat) (s : V8 × List UInt8) (n : Nat) : Prop :=
  ∃ buf : List UInt8, buf.length = 64 ∧ s.2.length = n % 64 ∧ buf.take (n % 64) = s.2 ∧ Row w g 100 (stCells s.1 n buf)

def lenOf : Value → Nat | .slice _ n _ => n | _ => 0
theorem BytesOff.keep {w w' : World} {g : Nat} {A : Option Addr} {p : List UInt8} (h : BytesOff w g A p) (hg : w.grownBy w' (some g)) : BytesOff w' g A p := by
  intro hp
  obtain ⟨b, off, hA, hb, hc⟩ := h hp
  exact ⟨b, off, hA, hb, fun j hj => hg.cell (hc j hj) (by simpa using hb)⟩
theorem BytesOff.nil (w : World) (g : Nat) (A : Option Addr) : BytesOff w g A [] := fun h => absurd h (by simp)
theorem st_splice (v : V8) (n : Nat) (buf q : List UInt8) (h : q.length ≤ buf.length) : splice (stCells v n buf) 9 (c8 q) = stCells v n (q ++ buf.drop q.length) := by
  have e : stCells v n buf = (c32 (wordsOf v) ++ [.int .u64 (n : Int)]) ++ (c8 (buf.take q.length) ++ c8 (buf.drop q.length)) := by
    simp [stCells, c8]
  rw [e, splice_mid (by simp [wordsOf]) (by simp; omega)]
  simp [stCells, c8]
theorem splice_right {α : Type} (A B x : List α) (k : Nat) : splice (A ++ B) (A.length + k) x = A ++ splice B k x := by
  unfold splice
  rw [List.take_length_add_append, Nat.add_assoc, List.drop_length_add_append]; simp
theorem splice_c8 (buf q : List UInt8) (k : Nat) : splice (c8 buf) k (c8 q) = c8 (splice buf k q) := by
  simp [splice, c8, List.map_take, List.map_drop]
theorem st_splice_at (v : V8) (n : Nat) (buf q : List UInt8) (H : Nat) : splice (stCells v n buf) (9 + H) (c8 q) = stCells v n (splice buf H q) := by
  have e : stCells v n buf = (c32 (wordsOf v) ++ [.int .u64 (n : Int)]) ++ c8 buf := by simp [stCells]
  rw [e, show 9 + H = (c32 (wordsOf v) ++ [Value.int .u64 (n : Int)]).length + H from by simp [wordsOf], splice_right, splice_c8]
  simp [stCells]
theorem st_cell8 {w : World} {g n : Nat} {v : V8} {buf : List UInt8} (h : Row w g 100 (stCells v n buf)) : w.cell? ⟨g, 8, none⟩ = some (.int .u64 (n : Int)) := h.cell 8
theorem st_set8 (v : V8) (n m : Nat) (buf : List UInt8) : (stCells v n buf).set 8 (.int .u64 (m : Int)) = stCells v m buf := rfl

set_option maxRecDepth 100000 in
set_option maxHeartbeats 4000000 in
theorem put_zero (g n c : Nat) (A : Option Addr) (p : List UInt8) (s : V8 × List UInt8) (w : World) (hp : BytesOff w g A p) (hc : p.length ≤ c) (hc2 : c ≤ 9223372036854775807)
    (hs : Has w g s n) (hn : n + p.length < 18446744073709551616) (h0 : n % 64 = 0) :
    Calls Try.prog 58 #[.pointer (some ⟨g, 0, none⟩), .slice A p.length c] w
      fun e w' => e = .returned (.tuple #[]) ∧ w.grownBy w' (some g) ∧ Has w' g (feed s p) (n + p.length) := by
  obtain ⟨buf, hbl, hst, hbt, hr⟩ := hs
  have hglt := hr.lt
  go_enter Try.func58, Try.ntmps58
  go_wp2_with fail
  refine (rounds_any _).mono ?_
  rintro e w1 ⟨rfl, hg1⟩
  have hr1 := hr.grown hg1 (by simp)
  have hz1 := hg1.size
  go_wp2_with (refine wp_storeAgg rfl 101 (.tmp 4) (.tmp 7) rfl w1.heap.size 0 101 (c32 (List.replicate 64 0)) (c32 kList) rfl rfl ?_ ?_ ?_ ?_ ?_)
  · exact Row.new w1 _ (c32 (List.replicate 64 0))
  · kernel_rfl
  · simp [kList]
  · simp [c32, v32, Value.oneCell']
  · intro w2 hk2 hg2 hs2
    rw [splice_all (by simp [kList])] at hk2
    have hr2 := (hr1.alloc _).grown hg2 (by simp; omega)
    have hg3 := grownBy_in (grownBy_alloc' hg1 _) hg2 (by omega)
    have hkg : w1.heap.size ≠ g := by omega
    clear hr hr1 hg1 hg2
    have c8' := st_cell8 hr2
    have f8 := hr2.frozen 8
    have m0 : (n : Int) % 64 = 0 := by omega
    go_wp2
    have hr3 := hr2.set 8 (.int .u64 (n + p.length))
    rw [show ((n : Int) + (p.length : Int)) = ((n + p.length : Nat) : Int) from by omega, st_set8] at hr3
    have hk3 := hk2.far (p := ⟨g, 8, none⟩) hkg (.int .u64 (n + p.length))
    have hg4 := grownBy_set (grownBy_weaken hg3 (some g)) (p := ⟨g, 8, none⟩) (.inr rfl) (.int .u64 (n + p.length))
    have hp2 := hp.keep hg4
    have hfs : feed (s.1, []) p = feed s p := by
      have : s.2 = [] := List.eq_nil_of_length_eq_zero (by omega)
      rw [← this]
    go_loopw [1] (fun sl wr => ∃ (v' : V8) (q : List UInt8) (B : Option Addr) (d : Nat), sl = .slice B q.length d ∧ q.length ≤ d ∧ d ≤ 9223372036854775807 ∧ BytesOff wr g B q ∧ feed (v', []) q = feed s p ∧
      Row wr g 100 (stCells v' (n + p.length) buf) ∧ Row wr w1.heap.size 101 (c32 kList) ∧ w.grownBy wr (some g)) (fun sl _ => lenOf sl)
    case atStart => exact ⟨s.1, p, A, c, rfl, hc, hc2, hp2, hfs, hr3, hk3, hg4⟩
    case round =>
      clear hr2 hk2 hr3 hk3 hp hp2 hfs hg3 hg4 m0 c8' f8
      obtain ⟨v', q, B, d, rfl, hqd, hd, hq, hf, hrg, hrk, hgr⟩ := hrel
      by_cases hlt : 64 ≤ q.length
      · obtain ⟨b, off, rfl, hbg, hb⟩ := hq (by omega)
        have q1 : (64 : Int) ≤ (q.length : Int) := by omega
        have q2 : (64 : Int) ≤ (d : Int) := by omega
        have hb1 : BytesAt wr b off (q.take 64) := by
          intro j hj
          simp only [List.length_take] at hj
          have h := hb j (by omega)
          rw [h]
          simp [List.getD_eq_getElem?_getD, show j < 64 from by omega]
        have hbw : b < wr.heap.size := World.block_lt_of_cell? wr _ (hb 0 (by omega))
        have hfd : feed (compress v' (q.take 64), []) (q.drop 64) = feed s p := by
          rw [← hf, ← List.take_append_drop 64 q, feed_append, List.take_append_drop, feed_full v' (q.take 64) [] (by simp; omega) (by simp; omega)]; rfl
        rcases Nat.lt_or_ge 64 d with hd64 | hd64
        · have hdne : ¬ d = 64 := by omega
          have hdi : ((d : Int) == 64) = false := by simp; omega
          go_wp2_with fail
          refine (block_any g b off _ _ _ (.int .u64 ((n + p.length : Nat) : Int) :: c8 buf) (q.take 64) _ hb1 (by simp; omega) (by omega) (by omega) v' hrg hrk).mono ?_
          rintro e w3 ⟨rfl, hgb, hrb⟩
          have hrk3 := hrk.grown hgb (by simpa using hkg)
          have hgr3 := grownBy_trans hgr hgb
          have hb3 : BytesOff w3 g (some ⟨b, off + 64, none⟩) (q.drop 64) := by
            intro _
            refine ⟨b, off + 64, rfl, hbg, fun j hj => ?_⟩
            simp only [List.length_drop] at hj
            have h := hgb.cell (hb (64 + j) (by omega)) (by simpa using hbg)
            rw [show off + 64 + j = off + (64 + j) from by omega, h]
            simp [List.getD_eq_getElem?_getD, List.getElem?_drop]
          clear hrk hgr hrg hb1 hb hq
          go_wp2
          go_roundw
          case rel => exact ⟨_, q.drop 64, _, d - 64, by rw [List.length_drop], by simp; omega, by omega, hb3, hfd, hrb, hrk3, hgr3⟩
          case measure => simp [lenOf]; omega
        · obtain rfl : d = 64 := by omega
          go_wp2_with fail
          refine (block_any g b off _ _ _ (.int .u64 ((n + p.length : Nat) : Int) :: c8 buf) (q.take 64) _ hb1 (by simp; omega) (by omega) (by omega) v' hrg hrk).mono ?_
          rintro e w3 ⟨rfl, hgb, hrb⟩
          have hrk3 := hrk.grown hgb (by simpa using hkg)
          have hgr3 := grownBy_trans hgr hgb
          have hb3 : BytesOff w3 g (some ⟨b, off, none⟩) (q.drop 64) := by
            intro h
            simp at h; omega
          clear hrk hgr hrg hb1 hb hq
          go_wp2
          go_roundw
          case rel => exact ⟨_, q.drop 64, _, 0, by rw [List.length_drop, show q.length - 64 = 0 from by omega], by simp; omega, by omega, hb3, hfd, hrb, hrk3, hgr3⟩
          case measure => simp [lenOf]; omega
      · have hq63 : (q.length : Int) < 64 := by omega
        have hlen : (n + p.length) % 64 = q.length := by
          have h1 := feed_tail_len s p (by omega)
          have h2 := feed_tail_len (v', []) q (by simp)
          rw [hf, h1] at h2
          simp at h2; omega
        have hfin : feed s p = (v', q) := by rw [← hf, feed_less v' q [] (by simp; omega)]; rfl
        go_wp2_with (refine wp_copy rfl (.tmp 58) (.tmp 59) 23 23 rfl 5 Try.underlying23 (by kernel_rfl) _ _ _ _ _ _ rfl rfl g 9 (stCells v' (n + p.length) buf) 100 ?_ (c8 q) ?_ ?_ ?_ ?_ ?_)
        · exact hrg
        · simp [Nat.min_def]; omega
        · intro h
          obtain ⟨b, off, rfl, hbg, hb⟩ := hq (by simpa using h)
          first | refine ⟨rfl, _, rfl, fun j u hu => ?_⟩ | refine ⟨_, rfl, fun j u hu => ?_⟩
          have hj : j < q.length := by have := (List.getElem?_eq_some_iff.1 hu).1; simpa using this
          rw [addr_add, hb j hj, ← c8_get q j hj, hu]
        · simp [stCells, wordsOf, hbl]; omega
        · simp [c8, v8, Value.oneCell']
        · intro w4 hr4 hg4
          go_wp2
          go_end0
          refine ⟨rfl, grownBy_trans hgr hg4, q ++ buf.drop q.length, by simp [hbl]; omega, by rw [hfin, hlen], by rw [hfin, hlen]; simp, ?_⟩
          rw [hfin]
          have e : splice (stCells v' (n + p.length) buf) 9 (c8 q) = stCells v' (n + p.length) (q ++ buf.drop q.length) := st_splice v' _ buf q (by omega)
          rw [← e]; exact hr4

set_option maxRecDepth 100000 in
set_option maxHeartbeats 4000000 in
theorem put_short (g n c : Nat) (A : Option Addr) (p : List UInt8) (s : V8 × List UInt8) (w : World) (hp : BytesOff w g A p) (hc : p.length ≤ c) (hc2 : c ≤ 9223372036854775807)
    (hs : Has w g s n) (hn : n + p.length < 18446744073709551616) (h0 : 0 < n % 64) (h64 : n % 64 + p.length < 64) :
    Calls Try.prog 58 #[.pointer (some ⟨g, 0, none⟩), .slice A p.length c] w
      fun e w' => e = .returned (.tuple #[]) ∧ w.grownBy w' (some g) ∧ Has w' g (feed s p) (n + p.length) := by
  obtain ⟨buf, hbl, hst, hbt, hr⟩ := hs
  have hglt := hr.lt
  go_enter Try.func58, Try.ntmps58
  go_wp2_with fail
  refine (rounds_any _).mono ?_
  rintro e w1 ⟨rfl, hg1⟩
  have hr1 := hr.grown hg1 (by simp)
  have hz1 := hg1.size
  go_wp2_with (refine wp_storeAgg rfl 101 (.tmp 4) (.tmp 7) rfl w1.heap.size 0 101 (c32 (List.replicate 64 0)) (c32 kList) rfl rfl ?_ ?_ ?_ ?_ ?_)
  · exact Row.new w1 _ (c32 (List.replicate 64 0))
  · kernel_rfl
  · simp [kList]
  · simp [c32, v32, Value.oneCell']
  · intro w2 hk2 hg2 hs2
    rw [splice_all (by simp [kList])] at hk2
    have hr2 := (hr1.alloc _).grown hg2 (by simp; omega)
    have hg3 := grownBy_in (grownBy_alloc' hg1 _) hg2 (by omega)
    have hkg : w1.heap.size ≠ g := by omega
    clear hr hr1 hg1 hg2
    have c8' := st_cell8 hr2
    have f8 := hr2.frozen 8
    have hr3 := hr2.set 8 (.int .u64 (n + p.length))
    rw [show ((n : Int) + (p.length : Int)) = ((n + p.length : Nat) : Int) from by omega, st_set8] at hr3
    have hk3 := hk2.far (p := ⟨g, 8, none⟩) hkg (.int .u64 (n + p.length))
    have hg4 := grownBy_set (grownBy_weaken hg3 (some g)) (p := ⟨g, 8, none⟩) (.inr rfl) (.int .u64 (n + p.length))
    have hp2 := hp.keep hg4
    obtain ⟨H, hH⟩ : ∃ H : Nat, H = n % 64 := ⟨_, rfl⟩
    rw [← hH] at h0 h64 hst hbt
    have m0 : (n : Int) % 64 = (H : Int) := by omega
    have m1 : (0 : Int) < (H : Int) := by omega
    have m2 : (H : Int) < 64 := by omega
    have m3 : (H : Int) ≤ 64 := by omega
    have m4 : ¬ 64 = H := by omega
    have HH : Hid (H = n % 64) := hH
    clear hH
    go_wp2_with (refine wp_copy rfl (.tmp 30) (.tmp 31) 23 23 rfl 5 Try.underlying23 (by kernel_rfl) _ _ _ _ _ _ rfl rfl g (9 + H) (stCells s.1 (n + p.length) buf) 100 ?_ (c8 p) ?_ ?_ ?_ ?_ ?_)
    · exact hr3
    · simp [Nat.min_def]; omega
    · intro h
      obtain ⟨b, off, rfl, hbg, hb⟩ := hp2 (by simpa using h)
      refine ⟨_, rfl, fun j u hu => ?_⟩
      have hj : j < p.length := by have := (List.getElem?_eq_some_iff.1 hu).1; simpa using this
      have hb' := hb j hj
      rw [show (((n + p.length : Nat) : Int)) = (n : Int) + (p.length : Int) from by omega] at *
      rw [addr_add, hb', ← c8_get p j hj, hu]
    · simp [stCells, wordsOf, hbl]; omega
    · simp [c8, v8, Value.oneCell']
    · intro w4 hr4 hg5
      have mm : ((c8 p).length : Int) = p.length := by simp
      have m5 : (H : Int) + p.length < 64 := by omega
      clear hr2 hk2 hr3 hk3 hp hp2 hg3
      go_wp2
      all_goals
        first | go_end0 | (refine bodyPost_ret (results_none rfl _ _ _) rfl ?_)
        have hfin : feed s p = (s.1, s.2 ++ p) := feed_less s.1 p s.2 (by omega)
        refine ⟨rfl, grownBy_trans hg4 hg5, splice buf H p, ?_, ?_, ?_, ?_⟩
        · rw [length_splice _ _ _ (by omega), hbl]
        · rw [hfin]; simp; omega
        · rw [hfin, ← hbt]
          have e : (n + p.length) % 64 = H + p.length := by have := HH.out; omega
          rw [e]; unfold splice
          rw [← List.append_assoc, List.take_append_of_le_length (by simp; omega), List.take_of_length_le (by simp; omega)]
        · rw [hfin, ← st_splice_at]; exact hr4
-- PUT LONG
set_option maxRecDepth 100000 in
set_option maxHeartbeats 4000000 in
theorem put_long (g n c : Nat) (A : Option Addr) (p : List UInt8) (s : V8 × List UInt8) (w : World) (hp : BytesOff w g A p) (hc : p.length ≤ c) (hc2 : c ≤ 9223372036854775807)
    (hs : Has w g s n) (hn : n + p.length < 18446744073709551616) (h0 : 0 < n % 64) (h64 : 64 ≤ n % 64 + p.length) :
    Calls Try.prog 58 #[.pointer (some ⟨g, 0, none⟩), .slice A p.length c] w
      fun e w' => e = .returned (.tuple #[]) ∧ w.grownBy w' (some g) ∧ Has w' g (feed s p) (n + p.length) := by
  obtain ⟨buf0, hbl0, hst, hbt, hr⟩ := hs
  have hglt := hr.lt
  go_enter Try.func58, Try.ntmps58
  go_wp2_with fail
  refine (rounds_any _).mono ?_
  rintro e w1 ⟨rfl, hg1⟩
  have hr1 := hr.grown hg1 (by simp)
  have hz1 := hg1.size
  go_wp2_with (refine wp_storeAgg rfl 101 (.tmp 4) (.tmp 7) rfl w1.heap.size 0 101 (c32 (List.replicate 64 0)) (c32 kList) rfl rfl ?_ ?_ ?_ ?_ ?_)
  · exact Row.new w1 _ (c32 (List.replicate 64 0))
  · kernel_rfl
  · simp [kList]
  · simp [c32, v32, Value.oneCell']
  · intro w2 hk2 hg2 hs2
    rw [splice_all (by simp [kList])] at hk2
    have hr2 := (hr1.alloc _).grown hg2 (by simp; omega)
    have hg3 := grownBy_in (grownBy_alloc' hg1 _) hg2 (by omega)
    have hkg : w1.heap.size ≠ g := by omega
    clear hr hr1 hg1 hg2
    have c8' := st_cell8 hr2
    have f8 := hr2.frozen 8
    have hr3 := hr2.set 8 (.int .u64 (n + p.length))
    rw [show ((n : Int) + (p.length : Int)) = ((n + p.length : Nat) : Int) from by omega, st_set8] at hr3
    have hk3 := hk2.far (p := ⟨g, 8, none⟩) hkg (.int .u64 (n + p.length))
    have hg4 := grownBy_set (grownBy_weaken hg3 (some g)) (p := ⟨g, 8, none⟩) (.inr rfl) (.int .u64 (n + p.length))
    have hp2 := hp.keep hg4
    obtain ⟨H, hH⟩ : ∃ H : Nat, H = n % 64 := ⟨_, rfl⟩
    rw [← hH] at h0 h64 hst hbt
    have m0 : (n : Int) % 64 = (H : Int) := by omega
    have m1 : (0 : Int) < (H : Int) := by omega
    have m2 : (H : Int) < 64 := by omega
    have m3 : (H : Int) ≤ 64 := by omega
    have m4 : ¬ 64 = H := by omega
    have HH : Hid (H = n % 64) := hH
    clear hH
    obtain ⟨b, off, rfl, hbg, hb⟩ := hp2 (by omega)
    obtain ⟨M, hM⟩ : ∃ M : Nat, H + M = 64 := ⟨64 - H, by omega⟩
    obtain ⟨q, hq⟩ : ∃ q, q = p.take M := ⟨_, rfl⟩
    have ql : q.length = M := by rw [hq]; simp; omega
    have hqg : ∀ j, j < M → q.getD j 0 = p.getD j 0 := by
      intro j hj; rw [hq]; simp [List.getD_eq_getElem?_getD, hj]
    have cn : (c8 q).length = Nat.min p.length (64 - H) := by rw [c8_length, ql]; show M = min p.length (64 - H); omega
    have cp : 0 < (c8 q).length → (some ⟨g, 9 + H, none⟩ : Option Addr) = some ⟨g, 9 + H, none⟩ ∧ ∃ ad : Addr, (some ⟨b, off, none⟩ : Option Addr) = some ad ∧
        ∀ j v, (c8 q)[j]? = some v → (w2.setCell ⟨g, 8, none⟩ (.int .u64 (n + p.length))).cell? (ad.add j) = some v := by
      intro _
      refine ⟨rfl, _, rfl, fun j u hu => ?_⟩
      have hj : j < q.length := by have := (List.getElem?_eq_some_iff.1 hu).1; simpa using this
      have hb' := hb j (by omega)
      have hu' := c8_get q j hj
      rw [hu] at hu'
      rw [addr_add, hb', hu', hqg j (by omega)]
    have cf : 9 + H + (c8 q).length ≤ (stCells s.1 (n + p.length) buf0).length := by simp [stCells, wordsOf, hbl0]; omega
    have co : ∀ v ∈ c8 q, v.oneCell' = true := by simp [c8, v8, Value.oneCell']
    have HQ := Lib.hid hq
    have HM := Lib.hid hM
    have HQG := Lib.hid hqg
    have mM : (H : Int) + M = 64 := by omega
    have mM1 : (M : Int) ≤ p.length := by omega
    have mM2 : (M : Int) ≤ c := by omega
    have mM3 : 0 < (M : Int) := by omega
    clear hq hM hqg
    have CN := Lib.hid cn
    have CP := Lib.hid cp
    have CF := Lib.hid cf
    have CO := Lib.hid co
    clear cn cp cf co
    go_wp2_with (refine wp_copy rfl (.tmp 30) (.tmp 31) 23 23 rfl 5 Try.underlying23 (by kernel_rfl) _ _ _ _ _ _ rfl rfl g (9 + H) (stCells s.1 (n + p.length) buf0) 100 hr3 (c8 q) CN.out CP.out CF.out CO.out ?_)
    · intro w4 hr4 hg5
      have hg5' := grownBy_trans hg4 hg5
      have hk5 := hk3.grown hg5 (by simpa using hkg)
      have hp3 := hp2.keep hg5
      have hM := HM.out
      rw [st_splice_at] at hr4
      obtain ⟨buf, hbufe⟩ : ∃ x, x = splice buf0 H q := ⟨_, rfl⟩
      have hbl : buf.length = 64 := by rw [hbufe, length_splice _ _ _ (by omega), hbl0]
      have hbv : buf = s.2 ++ q := by
        rw [hbufe, ← hbt]; unfold splice
        rw [List.drop_of_length_le (by omega)]; simp
      rw [← hbufe] at hr4
      have hr5 : Row w4 g 100 (c32 (wordsOf s.1) ++ (.int .u64 ((n + p.length : Nat) : Int) :: c8 buf)) := hr4
      have hbuf : BytesAt w4 g 9 buf := by
        intro j hj
        rw [hr5.cell, show 9 + j = (c32 (wordsOf s.1) ++ [Value.int .u64 ((n + p.length : Nat) : Int)]).length + j from by simp [wordsOf],
          show (c32 (wordsOf s.1) ++ (Value.int .u64 ((n + p.length : Nat) : Int) :: c8 buf)) = (c32 (wordsOf s.1) ++ [Value.int .u64 ((n + p.length : Nat) : Int)]) ++ c8 buf from by simp,
          List.getElem?_append_right (by omega), Nat.add_sub_cancel_left]
        exact c8_get buf j hj
      have hfs : feed (compress s.1 buf, []) (p.drop M) = feed s p := by
        rw [hbv]
        conv => rhs; rw [← List.take_append_drop M p, feed_append, ← HQ.out]
        rw [show feed s q = (compress s.1 (s.2 ++ q), []) from feed_full s.1 _ s.2 (by omega) (by omega)]
      clear hr2 hk2 hr3 hk3 hp hg3 hg4 hr4 hg5 hbufe hbv hbl0 hbt c8' f8 CN CP CF CO hb HQ HQG
      have hst' : s.2.length = n % 64 := by rw [hst]; exact HH.out
      clear hM hst
      rcases Nat.lt_or_ge M c with hcc | hcc
      · have m8 : ¬ c = M := by omega
        go_wp2_with fail
        refine (block_any g g 9 64 64 w1.heap.size (.int .u64 ((n + p.length : Nat) : Int) :: c8 buf) buf w4 hbuf hbl (by omega) (by omega) s.1 hr5 hk5).mono ?_
        rintro e w6 ⟨rfl, hg6, hrb⟩
        have hk6 := hk5.grown hg6 (by simpa using hkg)
        have hg7 := grownBy_trans hg5' hg6
        have hp4 : BytesOff w6 g (some ⟨b, off + M, none⟩) (p.drop M) := by
          intro h
          simp only [List.length_drop] at h
          refine ⟨b, off + M, rfl, hbg, fun j hj => ?_⟩
          simp only [List.length_drop] at hj
          obtain ⟨b', off', hbe, _, hb3⟩ := hp3 (by omega)
          injection hbe with hbe
          injection hbe with hb4 ho4
          subst hb4 ho4
          have h := hg6.cell (hb3 (M + j) (by omega)) (by simpa using hbg)
          rw [show off + M + j = off + (M + j) from by omega, h]
          simp [List.getD_eq_getElem?_getD, List.getElem?_drop]
        clear hr5 hk5 hg5' hg6 hp3 hp2 hbuf
        go_wp2
        go_loopw [1] (fun sl wr => ∃ (v' : V8) (q : List UInt8) (B : Option Addr) (d : Nat), sl = .slice B q.length d ∧ q.length ≤ d ∧ d ≤ 9223372036854775807 ∧ BytesOff wr g B q ∧ feed (v', []) q = feed s p ∧
          Row wr g 100 (stCells v' (n + p.length) buf) ∧ Row wr w1.heap.size 101 (c32 kList) ∧ w.grownBy wr (some g)) (fun sl _ => lenOf sl)
        case atStart => exact ⟨_, p.drop M, _, _, by first | (rw [List.length_drop]; done) | (rw [List.length_drop, show p.length - M = 0 from by omega]), by simp; omega, by omega, hp4, hfs, hrb, hk6, hg7⟩
        case round =>
          clear hrb hk6 hp4 hfs hg7 m0 mM ql
          obtain ⟨v', q, B, d, rfl, hqd, hd, hq, hf, hrg, hrk, hgr⟩ := hrel
          by_cases hlt : 64 ≤ q.length
          · obtain ⟨b, off, rfl, hbg, hb⟩ := hq (by omega)
            have q1 : (64 : Int) ≤ (q.length : Int) := by omega
            have q2 : (64 : Int) ≤ (d : Int) := by omega
            have hb1 : BytesAt wr b off (q.take 64) := by
              intro j hj
              simp only [List.length_take] at hj
              have h := hb j (by omega)
              rw [h]
              simp [List.getD_eq_getElem?_getD, show j < 64 from by omega]
            have hbw : b < wr.heap.size := World.block_lt_of_cell? wr _ (hb 0 (by omega))
            have hfd : feed (compress v' (q.take 64), []) (q.drop 64) = feed s p := by
              rw [← hf, ← List.take_append_drop 64 q, feed_append, List.take_append_drop, feed_full v' (q.take 64) [] (by simp; omega) (by simp; omega)]; rfl
            rcases Nat.lt_or_ge 64 d with hd64 | hd64
            · have hdne : ¬ d = 64 := by omega
              have hdi : ((d : Int) == 64) = false := by simp; omega
              go_wp2_with fail
              refine (block_any g b off _ _ _ (.int .u64 ((n + p.length : Nat) : Int) :: c8 buf) (q.take 64) _ hb1 (by simp; omega) (by omega) (by omega) v' hrg hrk).mono ?_
              rintro e w3 ⟨rfl, hgb, hrb⟩
              have hrk3 := hrk.grown hgb (by simpa using hkg)
              have hgr3 := grownBy_trans hgr hgb
              have hb3 : BytesOff w3 g (some ⟨b, off + 64, none⟩) (q.drop 64) := by
                intro _
                refine ⟨b, off + 64, rfl, hbg, fun j hj => ?_⟩
                simp only [List.length_drop] at hj
                have h := hgb.cell (hb (64 + j) (by omega)) (by simpa using hbg)
                rw [show off + 64 + j = off + (64 + j) from by omega, h]
                simp [List.getD_eq_getElem?_getD, List.getElem?_drop]
              clear hrk hgr hrg hb1 hb hq
              go_wp2
              go_roundw
              case rel => exact ⟨_, q.drop 64, _, d - 64, by rw [List.length_drop], by simp; omega, by omega, hb3, hfd, hrb, hrk3, hgr3⟩
              case measure => simp [lenOf]; omega
            · obtain rfl : d = 64 := by omega
              go_wp2_with fail
              refine (block_any g b off _ _ _ (.int .u64 ((n + p.length : Nat) : Int) :: c8 buf) (q.take 64) _ hb1 (by simp; omega) (by omega) (by omega) v' hrg hrk).mono ?_
              rintro e w3 ⟨rfl, hgb, hrb⟩
              have hrk3 := hrk.grown hgb (by simpa using hkg)
              have hgr3 := grownBy_trans hgr hgb
              have hb3 : BytesOff w3 g (some ⟨b, off, none⟩) (q.drop 64) := by
                intro h
                simp at h; omega
              clear hrk hgr hrg hb1 hb hq
              go_wp2
              go_roundw
              case rel => exact ⟨_, q.drop 64, _, 0, by rw [List.length_drop, show q.length - 64 = 0 from by omega], by simp; omega, by omega, hb3, hfd, hrb, hrk3, hgr3⟩
              case measure => simp [lenOf]; omega
          · have hq63 : (q.length : Int) < 64 := by omega
            have hlen : (n + p.length) % 64 = q.length := by
              have h1 := feed_tail_len s p (by omega)
              have h2 := feed_tail_len (v', []) q (by simp)
              rw [hf, h1] at h2
              simp at h2; omega
            have hfin : feed s p = (v', q) := by rw [← hf, feed_less v' q [] (by simp; omega)]; rfl
            go_wp2_with (refine wp_copy rfl (.tmp 58) (.tmp 59) 23 23 rfl 5 Try.underlying23 (by kernel_rfl) _ _ _ _ _ _ rfl rfl g 9 (stCells v' (n + p.length) buf) 100 ?_ (c8 q) ?_ ?_ ?_ ?_ ?_)
            · exact hrg
            · simp [Nat.min_def]; omega
            · intro h
              obtain ⟨b, off, rfl, hbg, hb⟩ := hq (by simpa using h)
              first | refine ⟨rfl, _, rfl, fun j u hu => ?_⟩ | refine ⟨_, rfl, fun j u hu => ?_⟩
              have hj : j < q.length := by have := (List.getElem?_eq_some_iff.1 hu).1; simpa using this
              rw [addr_add, hb j hj, ← c8_get q j hj, hu]
            · simp [stCells, wordsOf, hbl]; omega
            · simp [c8, v8, Value.oneCell']
            · intro w4 hr4 hg4
              go_wp2
              go_end0
              refine ⟨rfl, grownBy_trans hgr hg4, q ++ buf.drop q.length, by simp [hbl]; omega, by rw [hfin, hlen], by rw [hfin, hlen]; simp, ?_⟩
              rw [hfin]
              have e : splice (stCells v' (n + p.length) buf) 9 (c8 q) = stCells v' (n + p.length) (q ++ buf.drop q.length) := st_splice v' _ buf q (by omega)
              rw [← e]; exact hr4
      · obtain rfl : M = c := by omega
        go_wp2_with fail
        refine (block_any g g 9 64 64 w1.heap.size (.int .u64 ((n + p.length : Nat) : Int) :: c8 buf) buf w4 hbuf hbl (by omega) (by omega) s.1 hr5 hk5).mono ?_
        rintro e w6 ⟨rfl, hg6, hrb⟩
        have hk6 := hk5.grown hg6 (by simpa using hkg)
        have hg7 := grownBy_trans hg5' hg6
        have hp4 : BytesOff w6 g (some ⟨b, off, none⟩) (p.drop M) := by
          intro h
          simp only [List.length_drop] at h
          omega
        clear hr5 hk5 hg5' hg6 hp3 hp2 hbuf
        go_wp2
        go_loopw [1] (fun sl wr => ∃ (v' : V8) (q : List UInt8) (B : Option Addr) (d : Nat), sl = .slice B q.length d ∧ q.length ≤ d ∧ d ≤ 9223372036854775807 ∧ BytesOff wr g B q ∧ feed (v', []) q = feed s p ∧
          Row wr g 100 (stCells v' (n + p.length) buf) ∧ Row wr w1.heap.size 101 (c32 kList) ∧ w.grownBy wr (some g)) (fun sl _ => lenOf sl)
        case atStart => exact ⟨_, p.drop M, _, _, by first | (rw [List.length_drop]; done) | (rw [List.length_drop, show p.length - M = 0 from by omega]), by simp; omega, by omega, hp4, hfs, hrb, hk6, hg7⟩
        case round =>
          clear hrb hk6 hp4 hfs hg7 m0 mM ql
          obtain ⟨v', q, B, d, rfl, hqd, hd, hq, hf, hrg, hrk, hgr⟩ := hrel
          by_cases hlt : 64 ≤ q.length
          · obtain ⟨b, off, rfl, hbg, hb⟩ := hq (by omega)
            have q1 : (64 : Int) ≤ (q.length : Int) := by omega
            have q2 : (64 : Int) ≤ (d : Int) := by omega
            have hb1 : BytesAt wr b off (q.take 64) := by
              intro j hj
              simp only [List.length_take] at hj
              have h := hb j (by omega)
              rw [h]
              simp [List.getD_eq_getElem?_getD, show j < 64 from by omega]
            have hbw : b < wr.heap.size := World.block_lt_of_cell? wr _ (hb 0 (by omega))
            have hfd : feed (compress v' (q.take 64), []) (q.drop 64) = feed s p := by
              rw [← hf, ← List.take_append_drop 64 q, feed_append, List.take_append_drop, feed_full v' (q.take 64) [] (by simp; omega) (by simp; omega)]; rfl
            rcases Nat.lt_or_ge 64 d with hd64 | hd64
            · have hdne : ¬ d = 64 := by omega
              have hdi : ((d : Int) == 64) = false := by simp; omega
              go_wp2_with fail
              refine (block_any g b off _ _ _ (.int .u64 ((n + p.length : Nat) : Int) :: c8 buf) (q.take 64) _ hb1 (by simp; omega) (by omega) (by omega) v' hrg hrk).mono ?_
              rintro e w3 ⟨rfl, hgb, hrb⟩
              have hrk3 := hrk.grown hgb (by simpa using hkg)
              have hgr3 := grownBy_trans hgr hgb
              have hb3 : BytesOff w3 g (some ⟨b, off + 64, none⟩) (q.drop 64) := by
                intro _
                refine ⟨b, off + 64, rfl, hbg, fun j hj => ?_⟩
                simp only [List.length_drop] at hj
                have h := hgb.cell (hb (64 + j) (by omega)) (by simpa using hbg)
                rw [show off + 64 + j = off + (64 + j) from by omega, h]
                simp [List.getD_eq_getElem?_getD, List.getElem?_drop]
              clear hrk hgr hrg hb1 hb hq
              go_wp2
              go_roundw
              case rel => exact ⟨_, q.drop 64, _, d - 64, by rw [List.length_drop], by simp; omega, by omega, hb3, hfd, hrb, hrk3, hgr3⟩
              case measure => simp [lenOf]; omega
            · obtain rfl : d = 64 := by omega
              go_wp2_with fail
              refine (block_any g b off _ _ _ (.int .u64 ((n + p.length : Nat) : Int) :: c8 buf) (q.take 64) _ hb1 (by simp; omega) (by omega) (by omega) v' hrg hrk).mono ?_
              rintro e w3 ⟨rfl, hgb, hrb⟩
              have hrk3 := hrk.grown hgb (by simpa using hkg)
              have hgr3 := grownBy_trans hgr hgb
              have hb3 : BytesOff w3 g (some ⟨b, off, none⟩) (q.drop 64) := by
                intro h
                simp at h; omega
              clear hrk hgr hrg hb1 hb hq
              go_wp2
              go_roundw
              case rel => exact ⟨_, q.drop 64, _, 0, by rw [List.length_drop, show q.length - 64 = 0 from by omega], by simp; omega, by omega, hb3, hfd, hrb, hrk3, hgr3⟩
              case measure => simp [lenOf]; omega
          · have hq63 : (q.length : Int) < 64 := by omega
            have hlen : (n + p.length) % 64 = q.length := by
              have h1 := feed_tail_len s p (by omega)
              have h2 := feed_tail_len (v', []) q (by simp)
              rw [hf, h1] at h2
              simp at h2; omega
            have hfin : feed s p = (v', q) := by rw [← hf, feed_less v' q [] (by simp; omega)]; rfl
            go_wp2_with (refine wp_copy rfl (.tmp 58) (.tmp 59) 23 23 rfl 5 Try.underlying23 (by kernel_rfl) _ _ _ _ _ _ rfl rfl g 9 (stCells v' (n + p.length) buf) 100 ?_ (c8 q) ?_ ?_ ?_ ?_ ?_)
            · exact hrg
            · simp [Nat.min_def]; omega
            · intro h
              obtain ⟨b, off, rfl, hbg, hb⟩ := hq (by simpa using h)
              first | refine ⟨rfl, _, rfl, fun j u hu => ?_⟩ | refine ⟨_, rfl, fun j u hu => ?_⟩
              have hj : j < q.length := by have := (List.getElem?_eq_some_iff.1 hu).1; simpa using this
              rw [addr_add, hb j hj, ← c8_get q j hj, hu]
            · simp [stCells, wordsOf, hbl]; omega
            · simp [c8, v8, Value.oneCell']
            · intro w4 hr4 hg4
              go_wp2
              go_end0
              refine ⟨rfl, grownBy_trans hgr hg4, q ++ buf.drop q.length, by simp [hbl]; omega, by rw [hfin, hlen], by rw [hfin, hlen]; simp, ?_⟩
              rw [hfin]
              have e : splice (stCells v' (n + p.length) buf) 9 (c8 q) = stCells v' (n + p.length) (q ++ buf.drop q.length) := st_splice v' _ buf q (by omega)
              rw [← e]; exact hr4

theorem put_any (g n c : Nat) (A : Option Addr) (p : List UInt8) (s : V8 × List UInt8) (w : World) (hp : BytesOff w g A p) (hc : p.length ≤ c) (hc2 : c ≤ 9223372036854775807)
    (hs : Has w g s n) (hn : n + p.length < 18446744073709551616) :
    Calls Try.prog 58 #[.pointer (some ⟨g, 0, none⟩), .slice A p.length c] w
      fun e w' => e = .returned (.tuple #[]) ∧ w.grownBy w' (some g) ∧ Has w' g (feed s p) (n + p.length) := by
  rcases Nat.eq_zero_or_pos (n % 64) with h0 | h0
  · exact put_zero g n c A p s w hp hc hc2 hs hn h0
  · rcases Nat.lt_or_ge (n % 64 + p.length) 64 with h1 | h1
    · exact put_short g n c A p s w hp hc hc2 hs hn h0 h1
    · exact put_long g n c A p s w hp hc hc2 hs hn h0 h1
end Go.Proofs.Ytpohjldhbaalbaa
