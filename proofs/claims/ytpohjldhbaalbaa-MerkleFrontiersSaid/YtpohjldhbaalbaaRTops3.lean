/- The contract of the document's Tops. -/
import Derived.Test.YtpohjldhbaalbaaFrontMore
namespace Go.Proofs.Ytpohjldhbaalbaa
set_option linter.unusedVariables false
set_option linter.unusedSimpArgs false
set_option linter.unusedSectionVars false
open Go.RowKit
set_option linter.unusedVariables false

set_option maxRecDepth 100000 in
set_option maxHeartbeats 16000000 in
theorem rtops_any (A : Option Addr) (c : Nat) (L : Way) (w : World) (hL : Rows32 w A c L) (hc : c ≤ 9223372036854775807) (hl : L.length ≤ 4398046511104) :
    Calls Try.prog 42 #[.slice A L.length c] w fun e w' => ∃ v, e = .returned v ∧ OwnsR w' w.heap.size 26 v (topsL L) ∧ w.grownBy w' none := by
  have HL := Lib.hid hL
  have HC := Lib.hid hc
  have HM := Lib.hid hl
  have h63 : L.length < 2 ^ 63 := by have : (2 : Nat) ^ 63 = 9223372036854775808 := by decide
                                     omega
  have H63 := Lib.hid h63
  have hall : ∀ i, L32 (topsAt i L) := fun i => A32_rootTops i L hL.all
  have hS0 := (Own.start w).nilR w.heap.size 26
  clear hL hc hl h63 hall
  go_enter Try.func42, Try.ntmps42
  go_wp2
  go_loopw [0, 3, 4] (fun lv ov iv wr => ∃ (j : Nat) (A' : Option Addr) (c' : Nat) (L' P : Way), j ≤ 63 ∧ iv = .int .i64 ((j : Int) - 1) ∧ lv = .slice A' L'.length c' ∧ Hid (Rows32 w A' c' L' ∧ c' ≤ 9223372036854775807 ∧ L'.length ≤ 4398046511104 ∧ L'.length < 2 ^ j) ∧ Hid (P ++ topsAt j L' = topsL L) ∧ Hid (P.length + j ≤ 63) ∧ Own w wr [rowsE w.heap.size 26 ov P]) (fun _ _ iv _ => (intOf iv + 1).toNat)
  case atStart => exact ⟨63, A, c, L, [], Nat.le_refl _, rfl, rfl, Lib.hid ⟨HL.out, HC.out, HM.out, H63.out⟩, Lib.hid rfl, Lib.hid (by simp), hS0⟩
  case round =>
    clear hS0
    obtain ⟨j, A', c', L', P, hj, rfl, rfl, HR, HT, HP, hS⟩ := hrel
    cases j with
    | zero =>
      have t1 : ¬ (0 : Int) ≤ -1 := by omega
      have HE := Lib.hid (show P = topsL L by
        have h1 := HR.out.2.2.2
        have h2 : L' = [] := List.eq_nil_of_length_eq_zero (by simpa using h1)
        rw [← HT.out, h2]; simp [topsAt])
      clear hj
      rw [HE.out] at hS
      go_wp2
      go_ret
      exact ⟨_, rfl, hS.rows 0 rfl, hS.grown⟩
    | succ j =>
      have e1 : ((j + 1 : Nat) : Int) - 1 = (j : Int) := by omega
      rw [e1]
      have p0 : (0 : Int) ≤ (j : Int) := by omega
      have p1 : (j : Int) ≤ 62 := by omega
      have p2 : (j : Int) < 64 := by omega
      have p3 : (j : Int) % 18446744073709551616 = (j : Int) := by omega
      have p4 : IntKind.u64.wrap (j : Int) = (j : Int) := by rw [IntKind.wrap_u64]; omega
      have hpow := pow_lt_63 (j := j) (by omega)
      have hpow0 := Nat.two_pow_pos j
      obtain ⟨k, hk⟩ : ∃ k, k = 2 ^ j := ⟨_, rfl⟩
      rw [← hk] at hpow hpow0
      have p5 : (2 : Int) ^ j = (k : Int) := by rw [hk]; simp
      have p6 : wrap64 (k : Int) = (k : Int) := by unfold wrap64; omega
      have p7 : (k : Int) ≤ 9223372036854775807 := by omega
      have p8 : (0 : Int) < (k : Int) := by omega
      have HK := Lib.hid hk
      obtain ⟨r1, r2, r3, r4⟩ := HR.out
      obtain ⟨m, hm⟩ : ∃ m, m = L'.length := ⟨_, rfl⟩
      rw [← hm] at r3 r4 ⊢
      have HM' := Lib.hid hm
      have q1 : (m : Int) ≤ 4398046511104 := by omega
      by_cases hge : k ≤ m
      · have t1 : (k : Int) ≤ (m : Int) := by omega
        have hto := fun W => run_to32 Try.underlying22 size_a A' m c' k (by have := r1.le; omega) W
        have hfr := fun W => run_from32 Try.underlying22 size_a A' m c' k hge (by have := r1.le; omega) W
        have rt := r1.take k (by omega)
        have rd := r1.drop k (by omega)
        have lt : (L'.take k).length = k := by simp; omega
        have ld : (L'.drop k).length = m - k := by simp [hm]
        have cr := fun W (hg : w.grownBy W none) => rroot_any _ A' c' (L'.take k) W (Nat.le_refl _) (rt.keep hg) r2
        rw [lt] at cr
        have hXl := rootL_length _ rt.all
        have HT2 := Lib.hid (show (P ++ [rootL (L'.take k)]) ++ topsAt j (L'.drop k) = topsL L by
          rw [← HT.out, topsAt, if_pos (by rw [← hk, ← hm]; exact hge), ← hk]; simp)
        have HR2 := Lib.hid (show Rows32 w (if c' = k then A' else A'.map fun ad => ad.add (k * 32)) (c' - k) (L'.drop k) ∧ c' - k ≤ 9223372036854775807 ∧ (L'.drop k).length ≤ 4398046511104 ∧ (L'.drop k).length < 2 ^ j from
          ⟨rd, by omega, by omega, by rw [ld, ← hk]; rw [Nat.pow_succ, ← hk] at r4; omega⟩)
        have HP2 := Lib.hid (show (P ++ [rootL (L'.take k)]).length + j ≤ 63 by have := HP.out; simp; omega)
        have HLD := Lib.hid ld
        obtain ⟨X, hX⟩ : ∃ X, X = rootL (L'.take k) := ⟨_, rfl⟩
        rw [← hX] at cr hXl HT2 HP2
        have HXL := Lib.hid hXl
        have HAD := Lib.hid (show L32 [X] from fun z hz => by rw [List.mem_singleton.1 hz]; exact hXl)
        have HPB := Lib.hid (show P.length ≤ 63 by have := HP.out; omega)
        clear hX hXl r1 r2 r3 r4 rt rd lt ld hk hpow hpow0 hge hm hj
        go_wp2_with fail
        refine (cr _ hS.grown).mono ?_
        rintro e w2 ⟨rfl, hg⟩
        have hS1 := hS.call hg
        clear hg hS cr
        go_wp2_with (refine wp_built1 rfl 22 (.tmp 21) rfl 26 Try.underlying22 32 info_za (by omega) (by omega) (c8 X) (by rw [c8_length]; exact HXL.out) rfl ?_)
        intro w3 hr hg
        have hS2 := hS1.new hr hg
        clear hS1 hr hg
        have hbase := hS2.size
        go_wp2_with (refine wp_appR rfl (.tmp 17) (.tmp 22) 22 rfl 26 Try.underlying22 info_ra P (P ++ [X]) rfl (hS2.rows 1 rfl) _ 1 1 [X] rfl HAD.out (by simpa using src_row (hS2.row 0 rfl)) rfl rfl (by have := HPB.out; simp; omega) hbase ?_)
        intro v' w4 ho hg hv
        have hS3 := (hS2.appendR 1 rfl ho hg (by first | exact hv | simpa using hv)).tail
        clear hS2 ho hg hv hbase
        go_wp2
        go_roundw
        case rel => exact ⟨j, _, c' - k, L'.drop k, P ++ [X], by omega, by go_num, by rw [HLD.out], HR2, HT2, HP2, hS3⟩
        case measure => simp [intOf] <;> omega
      · have t1 : ¬ (k : Int) ≤ (m : Int) := by omega
        have HT2 := Lib.hid (show P ++ topsAt j L' = topsL L by rw [← HT.out, topsAt_up j L' (by rw [← hk, ← hm]; omega)])
        have HR2 := Lib.hid (show Rows32 w A' c' L' ∧ c' ≤ 9223372036854775807 ∧ L'.length ≤ 4398046511104 ∧ L'.length < 2 ^ j from ⟨r1, r2, by omega, by rw [← hk, ← hm]; omega⟩)
        have HP2 := Lib.hid (show P.length + j ≤ 63 by have := HP.out; omega)
        clear r1 r2 r3 r4 hk hpow hpow0 hge hm hj
        go_wp2
        go_roundw
        case rel => exact ⟨j, A', c', L', P, by omega, by go_num, by rw [HM'.out], HR2, HT2, HP2, hS⟩
        case measure => simp [intOf] <;> omega
end Go.Proofs.Ytpohjldhbaalbaa
