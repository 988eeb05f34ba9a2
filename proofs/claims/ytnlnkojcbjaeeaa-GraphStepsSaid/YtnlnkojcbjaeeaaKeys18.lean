/- maps.Keys of the graph's two maps: the function value that it tells, called at whatever loop's yield. -/
import Derived.Test.YtnlnkojcbjaeeaaIn18
import Derived.Test.YtnlnkojcbjaeeaaCmp18
namespace Go.Proofs.Ytnlnkojcbjaeeaa
set_option linter.unusedVariables false
set_option linter.unusedSimpArgs false
set_option linter.unusedSectionVars false
open Go.RowKit
set_option linter.unusedVariables false
def encV (x : D32) : Value := dgv x.1
def keysL (kv : KV) (ss : List D32) : Prop := (ss.map (·.1)).Perm (kv.map (·.1))
theorem grown_new {w w1 w2 : World} {g : Nat} (h1 : w.grownBy w1 none) (h2 : w1.grownBy w2 (some g)) (hg : w.heap.size ≤ g) : w.grownBy w2 none :=
  ⟨h2.os.trans h1.os, h2.tape.trans h1.tape, h2.output.trans h1.output, Nat.le_trans h1.size h2.size, fun k hk _ =>
    (h2.block k (Nat.lt_of_lt_of_le hk h1.size) (fun e => by injection e with e; omega)).trans (h1.block k hk (by simp))⟩
theorem RangeAt.iter_walk {w : World} {b r : Nat} {kv todo : KV} (h : RangeAt w b r kv todo) : ∃ o : Obj, w.heap[r]? = some o ∧ o.isWalk = true := by
  obtain ⟨es, clock, since, seen, c0, _, _, _, hr, _⟩ := h.ex
  exact ⟨_, hr, rfl⟩
set_option maxRecDepth 100000 in
set_option maxHeartbeats 1000000 in
theorem keys1B_in (F : Fence) (n : Nat) (hf : F.fn 48) (hro : F.round = none) (hn : 1 ≤ n) (l Bm b : Nat) (kv : KV) (J : List D32 → World → Prop)
    (hY : ∀ pre x W, J pre W → pre.length < kv.length → YieldAt F (n - 1) Try.prog l #[encV x] W fun e W' => e = .returned (.bool true) ∧ J (pre ++ [x]) W' ∧ KeepsWalks W W')
    (W : World) (hJ : AbidesFrom W.heap.size J) (hm : W.cell? ⟨Bm, 0, none⟩ = some (.map (some b))) (hM : MapAt W b kv) (h0 : J [] W) :
    CallsIn F n Try.prog 48 #[.func (.yield l) #[] #[], .pointer (some ⟨Bm, 0, none⟩)] W fun e W' => (∃ v, e = .returned v) ∧ ∃ ss : List D32, keysL kv ss ∧ J ss W' := by
  refine callsIn_of_wp Try.func48 rfl hf ?_ hro
  simp only [Try.ntmps48, List.size_toArray, List.length_cons, List.length_nil, Nat.reduceAdd, Nat.reduceSub, Array.replicate_succ, Array.replicate_zero, List.push_toArray, List.append_toArray, List.nil_append, List.cons_append]
  gi_wp2_with (gi_at_range; refine wi_range rfl _ 77 30 76 rfl Try.underlying77 b kv rfl hM ?_; intro w0 hrg0 hg0)
  go_frame
  gi_loopw [3] (fun _ wr => ∃ (todo : KV) (ss : List D32), RangeAt wr b W.heap.size kv todo ∧ (ss.map (·.1) ++ todo.map (·.1)).Perm (kv.map (·.1)) ∧ J ss wr)
    (fun _ wr => wr.rangeLeft b W.heap.size)
  case atStart => exact ⟨kv, [], hrg0, by simp, hJ [] W w0 none h0 hg0 (fun r e => by cases e)⟩
  case round =>
    obtain ⟨todo, ss, hrg, hpm, hJs⟩ := hrel
    gi_wp2_with (gi_at_next; refine wi_next rfl _ rfl b W.heap.size kv todo rfl hrg ?_ ?_)
    · intro ht0
      subst ht0
      gi_wp2
      go_end0
      exact ⟨⟨_, rfl⟩, ss, by simpa [keysL] using hpm, hJs⟩
    · intro k v todo' w2 hp hrg2 hg2 hs2 hen
      have hk : k.length = 32 := by
        have h1 : k ∈ kv.map (·.1) := (hpm.mem_iff).1 (List.mem_append_right _ (List.mem_map.2 ⟨(k, v), (hp.mem_iff).2 (by simp), rfl⟩))
        obtain ⟨p, hp1, hp2⟩ := List.mem_map.1 h1
        rw [← hp2]; exact hrg.len p hp1
      have hlt : ss.length < kv.length := by
        have h1 := hpm.length_eq
        have h2 := hp.length_eq
        simp at h1 h2
        omega
      have hJ2 : J ss w2 := hJ ss wr w2 (some W.heap.size) hJs hg2 (fun r e => by cases e; exact ⟨Nat.le_refl _, hrg.iter_walk⟩)
      have hmeas : w2.rangeLeft b W.heap.size < wr.rangeLeft b W.heap.size := by rw [hrg2.left_eq, hrg.left_eq, hp.length_eq]; simp
      have hpm2 : (((ss ++ [(⟨k, hk⟩ : D32)]).map (·.1)) ++ todo'.map (·.1)).Perm (kv.map (·.1)) := by
        refine List.Perm.trans ?_ hpm
        have h1 := (hp.map (·.1)).symm
        simp only [List.map_cons] at h1
        simp only [List.map_append, List.map_cons, List.map_nil, List.append_assoc, List.singleton_append]
        exact h1.append_left _
      have HPM := Lib.hid hpm2
      have HK := Lib.hid hk
      clear hpm hp hrg hJs hs2 hpm2
      gi_wp2_with (refine wi_alloc rfl 30 rfl _ alloc_d ?_)
      intro w3 hr3 hg3 hz3
      clear hz3
      gi_wp2_with (refine wi_storeAgg rfl 30 (.tmp 3) (.tmp 9) rfl w2.heap.size 0 30 zd (c8 k) rfl rfl hr3 (info_dg k HK.out) (by rw [c8_length, HK.out]; decide) (one8 _) ?_)
      intro w4 hr4 hg4 hz4
      clear hz4
      rw [splice_all (by rw [c8_length, HK.out]; decide)] at hr4
      have hg24 := grown_new hg3 hg4 (Nat.le_refl _)
      have hJ4 : J ss w4 := hJ ss w2 w4 none hJ2 hg24 (fun r e => by cases e)
      have hrg4 := hrg2.call hg24
      obtain ⟨fn, tmps, assign, body, hy, hR⟩ := hY ss ⟨k, HK.out⟩ w4 hJ4 hlt
      have hy' : (Instr.yield l #[.agg (c8 k).toArray]).run Try.prog w4 = .ok (.round l fn tmps assign body) w4 := hy
      have HML := Lib.hid (show w4.rangeLeft b W.heap.size < wr.rangeLeft b W.heap.size by rw [hrg4.left_eq, ← hrg2.left_eq]; exact hmeas)
      clear hg3 hg4 hr3 hg24 hJ2 hJ4 hy hen hrg2 hg2 hlt hmeas
      gi_wp2_with (refine wi_load rfl 30 (.tmp 3) rfl Try.underlying30 rfl ⟨w2.heap.size, 0, none⟩ rfl (c8 k) (info_dg k HK.out) (row_all hr4) ?_)
      refine hR.mono ?_
      rintro e W3 ⟨rfl, hJ5, hk5⟩
      have hrg5 := hrg4.of_walks hk5.same
      have HML5 := Lib.hid (show W3.rangeLeft b W.heap.size < wr.rangeLeft b W.heap.size by rw [hrg5.left_eq, ← hrg4.left_eq]; exact HML.out)
      clear hR hy'
      gi_wp2
      go_roundw
      case rel => exact ⟨todo', ss ++ [⟨k, HK.out⟩], hrg5, HPM.out, hJ5⟩
      case measure => exact HML5.out
set_option maxRecDepth 100000 in
set_option maxHeartbeats 1000000 in
theorem keysB_in (F : Fence) (n : Nat) (hf : F.fn 42) (hro : F.round = none) (b : Nat) (w : World) :
    CallsIn F n Try.prog 42 #[.map (some b)] w fun e w' => e = .returned (.func (.func 48) #[] #[.pointer (some ⟨w.heap.size, 0, none⟩)]) ∧ w' = w.alloc (.cells #[.map (some b)] 77) := by
  refine callsIn_of_wp Try.func42 rfl hf ?_ hro
  simp only [Try.ntmps42, List.size_toArray, List.length_cons, List.length_nil, Nat.reduceAdd, Nat.reduceSub, Array.replicate_succ, Array.replicate_zero, List.push_toArray, List.append_toArray, List.nil_append, List.cons_append]
  gi_wp2
  go_ret
  exact ⟨rfl, rfl⟩
theorem keysB_gives (F : Fence) (n : Nat) (hf : F.fn 48) (hro : F.round = none) (hn : 1 ≤ n) (Bm b : Nat) (kv : KV) (w : World) (hBm : Bm < w.heap.size) (hm : w.cell? ⟨Bm, 0, none⟩ = some (.map (some b))) (hM : MapAt w b kv) :
    SeqGives F n Try.prog 48 #[.pointer (some ⟨Bm, 0, none⟩)] encV (keysL kv) kv.length w := fun l J W hW hJ hY h0 => by
  have hM' : MapAt W b kv := by
    have hbl := hM.lt
    obtain ⟨es, clock, hb, h1, h2⟩ := hM.ex
    exact ⟨⟨es, clock, (hW.block b hbl).trans hb, h1, h2⟩, hM.len⟩
  exact keys1B_in F n hf hro hn l Bm b kv J hY W hJ ((hW.cell (p := ⟨Bm, 0, none⟩) hBm).trans hm) hM' h0
set_option maxRecDepth 100000 in
set_option maxHeartbeats 1000000 in
theorem keys1G_in (F : Fence) (n : Nat) (hf : F.fn 49) (hro : F.round = none) (hn : 1 ≤ n) (l Bm b : Nat) (kv : KV) (J : List D32 → World → Prop)
    (hY : ∀ pre x W, J pre W → pre.length < kv.length → YieldAt F (n - 1) Try.prog l #[encV x] W fun e W' => e = .returned (.bool true) ∧ J (pre ++ [x]) W' ∧ KeepsWalks W W')
    (W : World) (hJ : AbidesFrom W.heap.size J) (hm : W.cell? ⟨Bm, 0, none⟩ = some (.map (some b))) (hM : MapAt W b kv) (h0 : J [] W) :
    CallsIn F n Try.prog 49 #[.func (.yield l) #[] #[], .pointer (some ⟨Bm, 0, none⟩)] W fun e W' => (∃ v, e = .returned v) ∧ ∃ ss : List D32, keysL kv ss ∧ J ss W' := by
  refine callsIn_of_wp Try.func49 rfl hf ?_ hro
  simp only [Try.ntmps49, List.size_toArray, List.length_cons, List.length_nil, Nat.reduceAdd, Nat.reduceSub, Array.replicate_succ, Array.replicate_zero, List.push_toArray, List.append_toArray, List.nil_append, List.cons_append]
  gi_wp2_with (gi_at_range; refine wi_range rfl _ 70 30 32 rfl Try.underlying70 b kv rfl hM ?_; intro w0 hrg0 hg0)
  go_frame
  gi_loopw [3] (fun _ wr => ∃ (todo : KV) (ss : List D32), RangeAt wr b W.heap.size kv todo ∧ (ss.map (·.1) ++ todo.map (·.1)).Perm (kv.map (·.1)) ∧ J ss wr)
    (fun _ wr => wr.rangeLeft b W.heap.size)
  case atStart => exact ⟨kv, [], hrg0, by simp, hJ [] W w0 none h0 hg0 (fun r e => by cases e)⟩
  case round =>
    obtain ⟨todo, ss, hrg, hpm, hJs⟩ := hrel
    gi_wp2_with (gi_at_next; refine wi_next rfl _ rfl b W.heap.size kv todo rfl hrg ?_ ?_)
    · intro ht0
      subst ht0
      gi_wp2
      go_end0
      exact ⟨⟨_, rfl⟩, ss, by simpa [keysL] using hpm, hJs⟩
    · intro k v todo' w2 hp hrg2 hg2 hs2 hen
      have hk : k.length = 32 := by
        have h1 : k ∈ kv.map (·.1) := (hpm.mem_iff).1 (List.mem_append_right _ (List.mem_map.2 ⟨(k, v), (hp.mem_iff).2 (by simp), rfl⟩))
        obtain ⟨p, hp1, hp2⟩ := List.mem_map.1 h1
        rw [← hp2]; exact hrg.len p hp1
      have hlt : ss.length < kv.length := by
        have h1 := hpm.length_eq
        have h2 := hp.length_eq
        simp at h1 h2
        omega
      have hJ2 : J ss w2 := hJ ss wr w2 (some W.heap.size) hJs hg2 (fun r e => by cases e; exact ⟨Nat.le_refl _, hrg.iter_walk⟩)
      have hmeas : w2.rangeLeft b W.heap.size < wr.rangeLeft b W.heap.size := by rw [hrg2.left_eq, hrg.left_eq, hp.length_eq]; simp
      have hpm2 : (((ss ++ [(⟨k, hk⟩ : D32)]).map (·.1)) ++ todo'.map (·.1)).Perm (kv.map (·.1)) := by
        refine List.Perm.trans ?_ hpm
        have h1 := (hp.map (·.1)).symm
        simp only [List.map_cons] at h1
        simp only [List.map_append, List.map_cons, List.map_nil, List.append_assoc, List.singleton_append]
        exact h1.append_left _
      have HPM := Lib.hid hpm2
      have HK := Lib.hid hk
      clear hpm hp hrg hJs hs2 hpm2
      gi_wp2_with (refine wi_alloc rfl 30 rfl _ alloc_d ?_)
      intro w3 hr3 hg3 hz3
      clear hz3
      gi_wp2_with (refine wi_storeAgg rfl 30 (.tmp 3) (.tmp 9) rfl w2.heap.size 0 30 zd (c8 k) rfl rfl hr3 (info_dg k HK.out) (by rw [c8_length, HK.out]; decide) (one8 _) ?_)
      intro w4 hr4 hg4 hz4
      clear hz4
      rw [splice_all (by rw [c8_length, HK.out]; decide)] at hr4
      have hg24 := grown_new hg3 hg4 (Nat.le_refl _)
      have hJ4 : J ss w4 := hJ ss w2 w4 none hJ2 hg24 (fun r e => by cases e)
      have hrg4 := hrg2.call hg24
      obtain ⟨fn, tmps, assign, body, hy, hR⟩ := hY ss ⟨k, HK.out⟩ w4 hJ4 hlt
      have hy' : (Instr.yield l #[.agg (c8 k).toArray]).run Try.prog w4 = .ok (.round l fn tmps assign body) w4 := hy
      have HML := Lib.hid (show w4.rangeLeft b W.heap.size < wr.rangeLeft b W.heap.size by rw [hrg4.left_eq, ← hrg2.left_eq]; exact hmeas)
      clear hg3 hg4 hr3 hg24 hJ2 hJ4 hy hen hrg2 hg2 hlt hmeas
      gi_wp2_with (refine wi_load rfl 30 (.tmp 3) rfl Try.underlying30 rfl ⟨w2.heap.size, 0, none⟩ rfl (c8 k) (info_dg k HK.out) (row_all hr4) ?_)
      refine hR.mono ?_
      rintro e W3 ⟨rfl, hJ5, hk5⟩
      have hrg5 := hrg4.of_walks hk5.same
      have HML5 := Lib.hid (show W3.rangeLeft b W.heap.size < wr.rangeLeft b W.heap.size by rw [hrg5.left_eq, ← hrg4.left_eq]; exact HML.out)
      clear hR hy'
      gi_wp2
      go_roundw
      case rel => exact ⟨todo', ss ++ [⟨k, HK.out⟩], hrg5, HPM.out, hJ5⟩
      case measure => exact HML5.out
set_option maxRecDepth 100000 in
set_option maxHeartbeats 1000000 in
theorem keysG_in (F : Fence) (n : Nat) (hf : F.fn 44) (hro : F.round = none) (b : Nat) (w : World) :
    CallsIn F n Try.prog 44 #[.map (some b)] w fun e w' => e = .returned (.func (.func 49) #[] #[.pointer (some ⟨w.heap.size, 0, none⟩)]) ∧ w' = w.alloc (.cells #[.map (some b)] 70) := by
  refine callsIn_of_wp Try.func44 rfl hf ?_ hro
  simp only [Try.ntmps44, List.size_toArray, List.length_cons, List.length_nil, Nat.reduceAdd, Nat.reduceSub, Array.replicate_succ, Array.replicate_zero, List.push_toArray, List.append_toArray, List.nil_append, List.cons_append]
  gi_wp2
  go_ret
  exact ⟨rfl, rfl⟩
theorem keysG_gives (F : Fence) (n : Nat) (hf : F.fn 49) (hro : F.round = none) (hn : 1 ≤ n) (Bm b : Nat) (kv : KV) (w : World) (hBm : Bm < w.heap.size) (hm : w.cell? ⟨Bm, 0, none⟩ = some (.map (some b))) (hM : MapAt w b kv) :
    SeqGives F n Try.prog 49 #[.pointer (some ⟨Bm, 0, none⟩)] encV (keysL kv) kv.length w := fun l J W hW hJ hY h0 => by
  have hM' : MapAt W b kv := by
    have hbl := hM.lt
    obtain ⟨es, clock, hb, h1, h2⟩ := hM.ex
    exact ⟨⟨es, clock, (hW.block b hbl).trans hb, h1, h2⟩, hM.len⟩
  exact keys1G_in F n hf hro hn l Bm b kv J hY W hJ ((hW.cell (p := ⟨Bm, 0, none⟩) hBm).trans hm) hM' h0
end Go.Proofs.Ytnlnkojcbjaeeaa
