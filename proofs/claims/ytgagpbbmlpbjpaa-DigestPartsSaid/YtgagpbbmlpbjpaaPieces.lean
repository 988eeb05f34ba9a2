/- The contract of the law's 'pieces': bytes cut at any places. -/
import Derived.Test.YtgagpbbmlpbjpaaState
import Derived.Test.YtgagpbbmlpbjpaaInts
namespace Go.Proofs.Ytgagpbbmlpbjpaa
open Go.RowKit

def cutAt (c : Int) (n : Nat) : Nat := (c % 18446744073709551616 % ((n : Int) + 1)).toNat
theorem cutAt_le (c : Int) (n : Nat) : cutAt c n ≤ n := by
  unfold cutAt
  have h1 := Int.emod_lt_of_pos (c % 18446744073709551616) (show (0 : Int) < (n : Int) + 1 by omega)
  have h2 := Int.emod_nonneg (c % 18446744073709551616) (show ((n : Int) + 1) ≠ 0 by omega)
  omega
theorem cut_run (c : Int) (n : Nat) (hn : n ≤ 140737488351232) : wrap64 ((IntKind.u64.wrap c).tmod (IntKind.u64.wrap ((n : Int) + 1))) = ((cutAt c n : Nat) : Int) := by
  have h0 : 0 ≤ IntKind.u64.wrap c := by rw [IntKind.wrap_u64]; omega
  have h1 : IntKind.u64.wrap ((n : Int) + 1) = (n : Int) + 1 := by rw [IntKind.wrap_u64]; omega
  have h2 := cutAt_le c n
  have h3 : ((cutAt c n : Nat) : Int) = IntKind.u64.wrap c % ((n : Int) + 1) := by
    unfold cutAt
    rw [IntKind.wrap_u64]
    exact Int.toNat_of_nonneg (Int.emod_nonneg _ (by omega))
  rw [h1, Int.tmod_eq_emod_of_nonneg h0, ← h3, IntWalk.wrap64_in _ ⟨by omega, by omega⟩]
def piecesL : List UInt8 → List Int → List (List UInt8)
  | p, [] => [p]
  | p, c :: cs => p.take (cutAt c p.length) :: piecesL (p.drop (cutAt c p.length)) cs
/-- The values of slices that read as the pieces ps. -/
def PieceVals (w : World) (top : Nat) (vals : List Value) (ps : List (List UInt8)) : Prop :=
  vals.length = ps.length ∧ ∀ (i : Nat) (q : List UInt8), ps[i]? = some q → ∃ A c, vals[i]? = some (Value.slice A q.length c) ∧ Bytes w A q ∧ q.length ≤ c ∧ c ≤ top
theorem PieceVals.snoc {w : World} {top : Nat} {vals : List Value} {ps : List (List UInt8)} (h : PieceVals w top vals ps) {A : Option Addr} {c : Nat} {q : List UInt8} (hb : Bytes w A q) (h1 : q.length ≤ c) (h2 : c ≤ top) :
    PieceVals w top (vals ++ [Value.slice A q.length c]) (ps ++ [q]) := by
  refine ⟨by simp [h.1], fun i x hx => ?_⟩
  by_cases hi : i < ps.length
  · rw [List.getElem?_append_left hi] at hx
    obtain ⟨A', c', hv, hr⟩ := h.2 i x hx
    exact ⟨A', c', by rw [List.getElem?_append_left (by rw [h.1]; exact hi)]; exact hv, hr⟩
  · rw [List.getElem?_append_right (by omega)] at hx
    have hx0 : i - ps.length = 0 := by
      have := (List.getElem?_eq_some_iff.1 hx).1
      simp at this; omega
    rw [hx0] at hx
    simp at hx
    subst hx
    exact ⟨A, c, by rw [List.getElem?_append_right (by rw [h.1]; omega), h.1, hx0]; rfl, hb, h1, h2⟩

section
variable {P : Program}
/-- 's[:k]' -/
theorem run_to8 {t e : TypeId} (ht : P.underlying t = some (.slice e)) (hs : (P.info? e).map (·.size) = some 1) (A : Option Addr) (len cap k : Nat) (h2 : k ≤ cap) (W : World) :
    (Instr.slice t (.slice A len cap) none (some (.int .i64 (k : Int))) none).run P W = .ok (.slice A k cap) W := by
  have hel : P.elem t = e := by simp [Program.elem, ht]
  cases hq : P.info? e with
  | none => simp [hq] at hs
  | some i =>
    have hi : i.size = 1 := by simpa [hq] using hs
    rw [run_slice_h W t A len cap (by rw [hel]; exact ht) .i64 (k : Int) (by omega) (by omega)]
    have hce : P.cellsOf e = 1 := by simp [Program.cellsOf, hq, hi]
    rw [hel, run_sizeOf W hq, hce]
    have e0 : ∀ ad : Addr, ad.add 0 = ad := fun ad => by unfold Addr.add; split <;> simp_all
    simp [Result.andThen, sliced]
    intro _
    cases A <;> simp [e0]
theorem bytes_drop {w : World} {A : Option Addr} {p : List UInt8} (h : Bytes w A p) (k : Nat) (hk : k < p.length) : Bytes w (A.map fun ad => ad.add k) (p.drop k) := by
  intro h0
  obtain ⟨b, off, rfl, _, hc⟩ := h.at_ (by omega)
  refine ⟨b, off + k, by simp [addr_add], fun j hj => ?_⟩
  rw [Nat.add_assoc, hc (k + j) (by simp at hj; omega)]
  simp [List.getD_eq_getElem?_getD]
theorem bytes_take {w : World} {A : Option Addr} {p : List UInt8} (h : Bytes w A p) (k : Nat) : Bytes w A (p.take k) := by
  intro h0
  have hl : (p.take k).length ≤ p.length := by simp; omega
  obtain ⟨b, off, rfl, _, hc⟩ := h.at_ (by omega)
  refine ⟨b, off, rfl, fun j hj => ?_⟩
  rw [hc j (by omega)]
  have : j < k := by simp at hj; omega
  simp [List.getD_eq_getElem?_getD, List.getElem?_take, this]
/-- 's[k:]' of bytes -/
theorem run_from8 {t e : TypeId} (ht : P.underlying t = some (.slice e)) (hs : (P.info? e).map (·.size) = some 1) (A : Option Addr) (len cap k : Nat) (h1 : k ≤ len) (h2 : len ≤ cap) :
    ∃ A', (∀ W : World, (Instr.slice t (.slice A len cap) (some (.int .i64 (k : Int))) none none).run P W = .ok (.slice A' (len - k) (cap - k)) W) ∧ (A = none → A' = none) ∧ ∀ (w : World) (p : List UInt8), p.length = len → Bytes w A p → Bytes w A' (p.drop k) := by
  have hel : P.elem t = e := by simp [Program.elem, ht]
  cases hq : P.info? e with
  | none => simp [hq] at hs
  | some i =>
    have hi : i.size = 1 := by simpa [hq] using hs
    refine ⟨if cap = k then A else A.map fun ad => ad.add k, fun W => ?_, ?_, ?_⟩
    · rw [run_slice_l W t A len cap (by rw [hel]; exact ht) .i64 (k : Int) (by omega) (by omega)]
      have hce : P.cellsOf e = 1 := by simp [Program.cellsOf, hq, hi]
      rw [hel, run_sizeOf W hq, hce]
      simp [Result.andThen, sliced]
    · rintro rfl; split <;> rfl
    · intro w p hp hb
      by_cases hk : k < p.length
      · rw [if_neg (by omega)]
        exact bytes_drop hb k hk
      · intro h0; simp at h0; omega
end

theorem info_sl8 : (Try.prog.info? 22).map (fun i => (i.zero, i.size, i.bytes)) = some (some (.slice none 0 0), 1, 24) := by kernel_rfl
set_option maxRecDepth 100000 in
set_option maxHeartbeats 2000000 in
theorem pieces_any (c d : Nat) (A B : Option Addr) (p : List UInt8) (zs : List Int) (w0 w : World) (hp : Bytes w0 A p) (hc : p.length ≤ c) (hr : c ≤ 140737488351232)
    (hz : Ints .i64 w B zs) (hd : zs.length ≤ d) (hd2 : d ≤ 140737488351232) :
    Calls Try.prog 21 #[.slice A p.length c, .slice B zs.length d] w fun e w' => ∃ v' vals, e = .returned v' ∧ PieceVals w0 c vals (piecesL p (zs.take 40)) ∧
      w'.ownsRow w.heap.size 22 1 v' (piecesL p (zs.take 40)).length vals ∧ w.grownBy w' none := by
  have HZ := Lib.hid hz
  have HC := Lib.hid hc
  have HP := Lib.hid hp
  obtain ⟨m, hm⟩ : ∃ m, m = (zs.take 40).length := ⟨_, rfl⟩
  have hm1 : m ≤ zs.length := by rw [hm]; simp; omega
  have hm2 : (if (40 : Int) < zs.length then (40 : Int) else zs.length) = (m : Int) := by rw [hm]; simp; split <;> omega
  have HM := Lib.hid hm
  clear hm hz hp
  go_enter Try.func21, Try.ntmps21
  go_wp2
  go_loopw [0, 5, 14] (fun pv sv iv wr => ∃ (k c' : Nat) (A' : Option Addr) (p' : List UInt8) (vals : List Value) (done : List (List UInt8)), k ≤ m ∧ iv = .int .i64 k ∧ pv = .slice A' p'.length c' ∧ Bytes w0 A' p' ∧ p'.length ≤ c' ∧ c' ≤ c ∧
    done ++ piecesL p' ((zs.take 40).drop k) = piecesL p (zs.take 40) ∧ done.length = k ∧ PieceVals w0 c vals done ∧ Own w wr [ownE w.heap.size 22 sv k vals]) (fun _ _ iv _ => m - (intOf iv).toNat)
  case atStart => exact ⟨0, c, A, p, [], [], by omega, rfl, rfl, HP.out, hc, Nat.le_refl _, by simp, rfl, ⟨rfl, fun i q h => by simp at h⟩, (Own.start w).nilRow w.heap.size 22⟩
  case round =>
    clear hm2 hc
    obtain ⟨k, c', A', p', vals, done, hk, rfl, rfl, hb, hc, hcc, hdone, hdl, hv, hS⟩ := hrel
    have HD := Lib.hid hdone
    have HDL := Lib.hid hdl
    have HV := Lib.hid hv
    have HB := Lib.hid hb
    have hbo := own_block (hS.own 0 rfl)
    have hk40 : k ≤ 40 := by have := HM.out; simp at this; omega
    clear hdone hdl hv hb
    by_cases hlt : k < m
    · obtain ⟨b, off, rfl, _, hcell⟩ := HZ.out (by omega)
      obtain ⟨z, hz⟩ : ∃ z, z = zs.getD k 0 := ⟨_, rfl⟩
      have c0 := hS.cell (hcell k (by omega))
      rw [← hz] at c0
      have hdr : (zs.take 40).drop k = z :: (zs.take 40).drop (k + 1) := by
        have h1 : k < (zs.take 40).length := by rw [← HM.out]; exact hlt
        rw [List.drop_eq_getElem_cons h1, hz]
        congr 1
        simp [List.getD_eq_getElem?_getD, List.getElem?_eq_getElem (show k < zs.length by omega)]
      obtain ⟨q, hq⟩ : ∃ q, q = cutAt z p'.length := ⟨_, rfl⟩
      have hq1 : q ≤ p'.length := by rw [hq]; exact cutAt_le _ _
      have t1 := cut_run z p'.length (by omega)
      rw [← hq] at t1
      have t2 : IntKind.u64.wrap ((p'.length : Int) + 1) = (p'.length : Int) + 1 := by rw [IntKind.wrap_u64]; omega
      rw [t2] at t1
      have hto := fun W => run_to8 (P := Try.prog) Try.underlying22 (e := 5) (by kernel_rfl) A' p'.length c' q (by omega) W
      obtain ⟨A2, hfrom, _, hA2⟩ := run_from8 (P := Try.prog) Try.underlying22 (e := 5) (by kernel_rfl) A' p'.length c' q hq1 hc
      have HQ := Lib.hid hq
      have HDR := Lib.hid hdr
      have HA2 := Lib.hid hA2
      have q1 : (k : Int) < m := by omega
      have q2 : (0 : Int) ≤ (q : Int) := by omega
      have q3 : (q : Int) ≤ p'.length := by omega
      clear hz hdr hq hcell hA2 t2
      go_wp2_with (refine wp_append1 rfl (.tmp 26) (.tmp 30) 48 rfl w.heap.size 22 (.slice none 0 0) 24 Try.underlying48 info_sl8 rfl _ k vals rfl ((hS.own 0 rfl).alloc _) _ 1 1 [.slice A' q c'] rfl (.inr ⟨_, rfl, cell_one_new _ _ _⟩) rfl (by simp [Value.oneCell']) (by unfold maxLen; omega) (by omega) (by simp; have := hS.size; omega) ?_)
      intro v' w1 ho1 hg1 hv1
      have hS1 := (hS.call (World.grownBy_alloc _ _ none)).append 0 rfl ho1 hg1 (by simpa using hv1)
      clear hS ho1 hg1 hv1 hbo c0
      go_wp2
      have hlen : (p'.take q).length = q := by simp; omega
      have hpv := HV.out.snoc (bytes_take HB.out q) (c := c') (by omega) hcc
      rw [hlen] at hpv
      go_roundw
      case rel =>
        refine ⟨k + 1, c' - q, A2, p'.drop q, vals ++ [Value.slice A' q c'], done ++ [p'.take q], by omega, by go_num, by simp, HA2.out _ _ rfl HB.out, by simp; omega, by omega, ?_, by simp; exact HDL.out, hpv, hS1⟩
        rw [← HD.out, HDR.out]
        simp only [piecesL]
        rw [← HQ.out]
        simp
      case measure => simp [intOf]; omega
    · have hkm : k = m := by omega
      have hfin : piecesL p (zs.take 40) = done ++ [p'] := by
        rw [← HD.out, List.drop_of_length_le (by rw [← HM.out]; omega)]
        rfl
      have HF := Lib.hid hfin
      have q1 : (m : Int) ≤ k := by omega
      clear hfin hkm hlt
      go_wp2_with (refine wp_append1 rfl (.tmp 36) (.tmp 38) 48 rfl w.heap.size 22 (.slice none 0 0) 24 Try.underlying48 info_sl8 rfl _ k vals rfl ((hS.own 0 rfl).alloc _) _ 1 1 [.slice A' p'.length c'] rfl (.inr ⟨_, rfl, cell_one_new _ _ _⟩) rfl (by simp [Value.oneCell']) (by unfold maxLen; omega) (by omega) (by simp; have := hS.size; omega) ?_)
      intro v' w1 ho1 hg1 hv1
      have hS1 := (hS.call (World.grownBy_alloc _ _ none)).append 0 rfl ho1 hg1 (by simpa using hv1)
      clear hS ho1 hg1 hv1 hbo
      go_wp2
      go_ret
      refine ⟨_, vals ++ [Value.slice A' p'.length c'], rfl, ?_, ?_, hS1.grown⟩
      · rw [HF.out]; exact HV.out.snoc HB.out hc hcc
      · rw [HF.out]
        have := hS1.own 0 rfl
        rw [show (done ++ [p']).length = k + 1 from by simp; exact HDL.out]
        exact this
end Go.Proofs.Ytgagpbbmlpbjpaa
