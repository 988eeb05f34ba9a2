/- The law's nodes. -/
import Derived.Test.YtnlnkojcbjaeeaaNode18
namespace Go.Proofs.Ytnlnkojcbjaeeaa
set_option linter.unusedVariables false
set_option linter.unusedSimpArgs false
set_option linter.unusedSectionVars false
open Go.RowKit
set_option linter.unusedVariables false
section
variable {P : Program}
/-- 's[:k]' -/
theorem run_to8 {t e : TypeId} (ht : P.underlying t = some (.slice e)) (hs : (P.info? e).map (·.size) = some 1) (A : Option Addr) (len cap k : Nat) (h2 : k ≤ cap) (W : World) :
    (Instr.slice t (.slice A len cap) none (some (.int .i64 (k : Int))) none).run P W = .ok (.slice A k cap) W := by
  have hel : P.elem t = e := by simp [Program.elem, ht]
  cases hq : P.info? e with
  | none => simp [hq] at hs
  | some i =>
    have hi : i.size = 1 := by simpa [hq] using hs
    rw [run_slice_h W t A len cap (by rw [hel]; exact ht) .i64 (k : Int) (by omega) (by omega)]
    have hce : P.cellsOf e = 1 := by simp [Program.cellsOf, hq, hi]
    rw [hel, run_sizeOf W hq, hce]
    have e0 : ∀ ad : Addr, ad.add 0 = ad := fun ad => by unfold Addr.add; split <;> simp_all
    simp [Result.andThen, sliced]
    intro _
    cases A <;> simp [e0]
theorem bytes_take {w : World} {A : Option Addr} {p : List UInt8} (h : Bytes w A p) (k : Nat) : Bytes w A (p.take k) := by
  intro h0
  have hl : (p.take k).length ≤ p.length := by simp; omega
  obtain ⟨b, off, rfl, _, hc⟩ := h.at_ (by omega)
  refine ⟨b, off, rfl, fun j hj => ?_⟩
  rw [hc j (by omega)]
  have : j < k := by simp at hj; omega
  simp [List.getD_eq_getElem?_getD, List.getElem?_take, this]
end
def nodesL (l : List UInt8) : List Dg := (l.take 12).map nodeL
theorem nodes32 (l : List UInt8) : L32 (l.map nodeL) := by
  intro x hx
  obtain ⟨n, _, rfl⟩ := List.mem_map.1 hx
  exact nodeL_len n
set_option maxRecDepth 100000 in
set_option maxHeartbeats 1000000 in
theorem nodes_any (A : Option Addr) (c : Nat) (l : List UInt8) (w : World) (hB : Bytes w A l) (hlc : l.length ≤ c) (hc : c ≤ 9223372036854775807) (hnil : A = none → c = 0) :
    Calls Try.prog 11 #[.slice A l.length c] w fun e w' => ∃ v, e = .returned v ∧ OwnsR w' w.heap.size 30 v (nodesL l) ∧ w.grownBy w' none := by
  obtain ⟨m, hm⟩ : ∃ m, m = min l.length 12 := ⟨_, rfl⟩
  have hmn : min (l.length : Int) 12 = (m : Int) := by omega
  have hk1 : (if (12 : Int) < (l.length : Int) then (12 : Int) else (l.length : Int)) = (m : Int) := by split <;> omega
  have hk2 : (if (l.length : Int) < 12 then (l.length : Int) else 12) = (m : Int) := by split <;> omega
  have hk3 : (if 12 < l.length then (12 : Int) else (l.length : Int)) = (m : Int) := by split <;> omega
  have hk4 : (if l.length < 12 then (l.length : Int) else 12) = (m : Int) := by split <;> omega
  have hml : m ≤ l.length := by omega
  have hm12 : m ≤ 12 := by omega
  have hsl := fun W => run_to8 (P := Try.prog) (t := 23) (e := 5) Try.underlying23 (by kernel_rfl) A l.length c m (by omega) W
  have hb := bytes_take hB m
  obtain ⟨t, ht⟩ : ∃ t, t = l.take m := ⟨_, rfl⟩
  have htl : t.length = m := by rw [ht]; simp; omega
  have hres : nodesL l = t.map nodeL := by
    unfold nodesL; rw [ht]
    by_cases h12 : 12 ≤ l.length
    · rw [show m = 12 by omega]
    · rw [show m = l.length by omega, List.take_length, List.take_of_length_le (by omega)]
  rw [← ht] at hb
  rw [hres]
  clear ht hres hB hm
  have HT := Lib.hid htl
  have HB := Lib.hid hb
  have hS0 := (Own.start w).nilR w.heap.size 30
  clear htl hb hlc hnil hml
  go_enter Try.func11, Try.ntmps11
  go_wp2
  go_loopw [3, 12] (fun v i wr => ∃ k : Nat, k ≤ m ∧ i = .int .i64 k ∧ Own w wr [rowsE w.heap.size 30 v ((t.take k).map nodeL)]) (fun _ i _ => m - (intOf i).toNat)
  case atStart => exact ⟨0, by omega, rfl, hS0⟩
  case round =>
    clear hS0
    obtain ⟨k, hk, rfl, hS⟩ := hrel
    by_cases hlt : k < m
    · have q1 : (k : Int) < (m : Int) := by omega
      have hk12 : (k : Int) < 12 := by omega
      obtain ⟨b, off, rfl, _, hc⟩ := HB.out.at_ (by rw [HT.out]; omega)
      have hcell := hS.cell (hc k (by rw [HT.out]; exact hlt))
      have hnx := Lib.hid (show (t.take (k + 1)).map nodeL = (t.take k).map nodeL ++ [nodeL (t.getD k 0)] by rw [take_snoc8 t k (by rw [HT.out]; exact hlt)]; simp)
      have hln := Lib.hid (show ((t.take k).map nodeL).length ≤ 12 by simp; omega)
      obtain ⟨x, hx⟩ : ∃ x, x = t.getD k 0 := ⟨_, rfl⟩
      rw [← hx] at hcell hnx
      clear hc hx
      go_wp2_with fail
      refine (node_any x _).mono ?_
      rintro e w2 ⟨rfl, hg⟩
      have hS2 := hS.call hg
      clear hg hS
      go_wp2_with (refine wp_built1 rfl 32 (.tmp 18) rfl 30 Try.underlying32 32 info_zd (by omega) (by omega) (c8 (nodeL x)) (by rw [c8_length, nodeL_len]) rfl ?_)
      intro w3 hr hg
      have hS3 := hS2.new hr hg
      have HR3 := Lib.hid hr
      clear hr hg hS2
      go_wp2_with (refine wp_appR rfl (.tmp 16) (.tmp 19) 32 rfl 30 Try.underlying32 info_rd ((t.take k).map nodeL) ((t.take (k + 1)).map nodeL) rfl (hS3.rows 1 rfl) (some ⟨w2.heap.size, 0, none⟩) 1 1 [nodeL x] rfl (by intro y hy; rw [List.mem_singleton.1 hy]; exact nodeL_len x) (by rw [show c8 [nodeL x].flatten = c8 (nodeL x) from by simp]; exact src_row HR3.out) rfl hnx.out (by have := hln.out; simp only [List.length_singleton]; omega) hS3.size ?_)
      intro v' w4 ho hg hv
      have hS4 := hS3.appendR 1 rfl ho hg (by first | exact hv | simpa using hv)
      clear ho hg hv hS3
      go_wp2
      go_roundw
      case rel => exact ⟨k + 1, by omega, by go_num, by rw [List.map_take]; exact hS4.tail⟩
      case measure => simp [intOf]; omega
    · have hke : k = m := by omega
      have q1 : ¬ ((k : Int) < (m : Int)) := by omega
      rw [hke, show t.take m = t by rw [← HT.out, List.take_length]] at hS
      clear hke
      go_wp2
      go_ret
      exact ⟨_, rfl, hS.rows 0 rfl, hS.grown⟩
end Go.Proofs.Ytnlnkojcbjaeeaa
