/- The contracts of Get and Word: numbers out of bytes. -/
import Derived.Test.YtgagpbbmlpbjpaaPieces
import Derived.WalkLawsBesides
namespace Go.Proofs.Ytgagpbbmlpbjpaa
open Go.RowKit

/-- the number that bytes are -/
def beNat (p : List UInt8) : Nat := p.foldl (fun n x => n * 256 + x.toNat) 0
theorem beNat_snoc (p : List UInt8) (x : UInt8) : beNat (p ++ [x]) = beNat p * 256 + x.toNat := by simp [beNat, List.foldl_append]
theorem beNat_lt : ∀ (k : Nat) (p : List UInt8), p.length = k → beNat p < 256 ^ k
  | 0, p, h => by rw [List.eq_nil_of_length_eq_zero h]; simp [beNat]
  | k + 1, p, h => by
    rcases List.eq_nil_or_concat p with rfl | ⟨q, x, rfl⟩
    · simp at h
    · rw [List.concat_eq_append] at h ⊢
      have ih := beNat_lt k q (by simp at h; exact h)
      have hx := x.toNat_lt
      rw [beNat_snoc, Nat.pow_succ]
      omega
theorem pow256 (k : Nat) (h : k ≤ 8) : 256 ^ k ≤ 18446744073709551616 := by
  have := Nat.pow_le_pow_right (show 0 < 256 by omega) h
  simpa using this
theorem or_low (n : Nat) (x : UInt8) (hn : n * 256 + x.toNat < 18446744073709551616) : bits .or .u64 ((n : Int) * 256) (n8 x) = ((n * 256 + x.toNat : Nat) : Int) := by
  have hx := x.toNat_lt
  unfold n8
  have h0 := u64_or_nat (n * 256) x.toNat (Nat.lt_of_le_of_lt (Nat.le_add_right _ _) hn) (Nat.lt_trans hx (by decide))
  rw [show (n : Int) * 256 = ((n * 256 : Nat) : Int) by simp, h0]
  have : n * 256 ||| x.toNat = n * 256 + x.toNat := by
    have h1 := Nat.shiftLeft_add_eq_or_of_lt hx n
    rw [Nat.shiftLeft_eq, show (2 : Nat) ^ 8 = 256 from rfl] at h1
    rw [h1]
  rw [this]

set_option maxRecDepth 100000 in
set_option maxHeartbeats 1000000 in
theorem get_any (c : Nat) (A : Option Addr) (p : List UInt8) (w : World) (hp : Bytes w A p) (hl : p.length ≤ 8) :
    Calls Try.prog 48 #[.slice A p.length c] w fun e w' => e = .returned (.tuple #[.int .u64 (beNat p : Int), .bool true]) ∧ w = w' := by
  go_enter Try.func48, Try.ntmps48
  go_wp2
  go_loop [4, 12] (fun nv iv => ∃ k : Nat, k ≤ p.length ∧ iv = .int .i64 k ∧ nv = .int .u64 (beNat (p.take k) : Int)) (fun _ iv => p.length - (intOf iv).toNat)
  case atStart => exact ⟨0, by omega, rfl, by simp [beNat]⟩
  case round =>
    obtain ⟨k, hk, rfl, rfl⟩ := hrel
    by_cases hlt : k < p.length
    · obtain ⟨b, off, rfl, hb, hc⟩ := hp.at_ (by omega)
      have c0 := hc k hlt
      obtain ⟨x, hx⟩ : ∃ x, x = p.getD k 0 := ⟨_, rfl⟩
      have hsn : beNat (p.take (k + 1)) = beNat (p.take k) * 256 + x.toNat := by rw [take_snoc8 p k hlt, ← hx, beNat_snoc]
      have hb1 := beNat_lt k (p.take k) (by simp; omega)
      have hb2 := beNat_lt (k + 1) (p.take (k + 1)) (by simp; omega)
      have hp1 := pow256 (k + 1) (by omega)
      rw [← hx] at c0
      obtain ⟨n, hn⟩ : ∃ n, n = beNat (p.take k) := ⟨_, rfl⟩
      rw [← hn] at hsn hb1 ⊢
      have hlt2 : n * 256 + x.toNat < 18446744073709551616 := by omega
      have hor := or_low n x hlt2
      have n1 := n8_lo x
      have n2 := n8_hi x
      have hn2 : (n : Int) * 256 ≤ 18446744073709551615 := by omega
      have HSN := Lib.hid hsn
      have q1 : (k : Int) < p.length := by omega
      clear hx hn hsn hb1 hb2 hp1 hc hp
      go_wp2
      go_round
      case rel => exact ⟨k + 1, by omega, by go_num, by rw [HSN.out]; go_num⟩
      case measure => simp [intOf]; omega
    · have hke : k = p.length := by omega
      rw [hke, List.take_length]
      go_wp2
      go_ret2
      exact ⟨rfl, rfl⟩
set_option maxRecDepth 100000 in
set_option maxHeartbeats 1000000 in
theorem rget_any (c : Nat) (A : Option Addr) (p : List UInt8) (w : World) (hp : Bytes w A p) (hl : p.length ≤ 8) :
    Calls Try.prog 49 #[.slice A p.length c] w fun e w' => e = .returned (.tuple #[.int .u64 (beNat p : Int), .bool true]) ∧ w = w' := by
  go_enter Try.func49, Try.ntmps49
  go_wp2
  go_loop [4, 5] (fun nv iv => ∃ k : Nat, k ≤ p.length ∧ iv = .int .i64 k ∧ nv = .int .u64 (beNat (p.take k) : Int)) (fun _ iv => p.length - (intOf iv).toNat)
  case atStart => exact ⟨0, by omega, rfl, by simp [beNat]⟩
  case round =>
    obtain ⟨k, hk, rfl, rfl⟩ := hrel
    by_cases hlt : k < p.length
    · obtain ⟨b, off, rfl, hb, hc⟩ := hp.at_ (by omega)
      have c0 := hc k hlt
      obtain ⟨x, hx⟩ : ∃ x, x = p.getD k 0 := ⟨_, rfl⟩
      have hsn : beNat (p.take (k + 1)) = beNat (p.take k) * 256 + x.toNat := by rw [take_snoc8 p k hlt, ← hx, beNat_snoc]
      have hb2 := beNat_lt (k + 1) (p.take (k + 1)) (by simp; omega)
      have hp1 := pow256 (k + 1) (by omega)
      rw [← hx] at c0
      obtain ⟨n, hn⟩ : ∃ n, n = beNat (p.take k) := ⟨_, rfl⟩
      rw [← hn] at hsn ⊢
      have hlt2 : n * 256 + x.toNat < 18446744073709551616 := by omega
      have n1 := n8_lo x
      have n2 := n8_hi x
      have hn2 : (n : Int) * 256 + n8 x ≤ 18446744073709551615 := by unfold n8; omega
      have HSN := Lib.hid hsn
      have q1 : (k : Int) < p.length := by omega
      clear hx hn hsn hb2 hp1 hc hp
      go_wp2
      go_round
      case rel => exact ⟨k + 1, by omega, by go_num, by rw [HSN.out]; unfold n8; go_num⟩
      case measure => simp [intOf]; omega
    · have hke : k = p.length := by omega
      rw [hke, List.take_length]
      go_wp2
      go_ret2
      exact ⟨rfl, rfl⟩

section
variable {P : Program}
/-- 's[i:j]' of bytes -/
theorem run_mid8 {t e : TypeId} (ht : P.underlying t = some (.slice e)) (hs : (P.info? e).map (·.size) = some 1) (A : Option Addr) (len cap i j : Nat) (h1 : i ≤ j) (h2 : j ≤ len) (h3 : len ≤ cap) :
    ∃ A', (∀ W : World, (Instr.slice t (.slice A len cap) (some (.int .i64 (i : Int))) (some (.int .i64 (j : Int))) none).run P W = .ok (.slice A' (j - i) (cap - i)) W) ∧ ∀ (w : World) (p : List UInt8), p.length = len → Bytes w A p → Bytes w A' ((p.drop i).take (j - i)) := by
  have hel : P.elem t = e := by simp [Program.elem, ht]
  cases hq : P.info? e with
  | none => simp [hq] at hs
  | some x =>
    have hi : x.size = 1 := by simpa [hq] using hs
    refine ⟨if cap = i then A else A.map fun ad => ad.add i, fun W => ?_, ?_⟩
    · rw [run_slice_lh W t A len cap (by rw [hel]; exact ht) .i64 .i64 (i : Int) (j : Int) (by omega) (by omega) (by omega)]
      have hce : P.cellsOf e = 1 := by simp [Program.cellsOf, hq, hi]
      rw [hel, run_sizeOf W hq, hce]
      simp [Result.andThen, sliced]
    · intro w p hp hb
      by_cases hk : i < p.length
      · rw [if_neg (by omega)]
        exact bytes_take (bytes_drop hb i hk) _
      · intro h0; simp at h0; omega
end
/-- the word at a place -/
def wordIn (p : List UInt8) (i : Nat) : UInt32 := UInt32.ofNat (beNat ((p.drop i).take 4))
theorem wordIn_n (p : List UInt8) (i : Nat) (h : i + 4 ≤ p.length) : n32 (wordIn p i) = (beNat ((p.drop i).take 4) : Int) := by
  have := beNat_lt 4 ((p.drop i).take 4) (by simp; omega)
  unfold n32 wordIn; rw [UInt32.toNat_ofNat']; omega
set_option maxRecDepth 100000 in
set_option maxHeartbeats 1000000 in
theorem word_any (c : Nat) (A : Option Addr) (p : List UInt8) (i : Nat) (w : World) (hp : Bytes w A p) (hc : p.length ≤ c) (hc2 : c ≤ 9223372036854775807) (hi : i + 4 ≤ p.length) :
    Calls Try.prog 47 #[.slice A p.length c, .int .i64 (i : Int)] w fun e w' => e = .returned (.tuple #[.int .u32 (n32 (wordIn p i)), .bool true]) ∧ w = w' := by
  obtain ⟨A', hs, hb⟩ := run_mid8 (P := Try.prog) Try.underlying22 (e := 5) (by kernel_rfl) A p.length c i (i + 4) (by omega) hi hc
  rw [show ((i + 4 : Nat) : Int) = (i : Int) + 4 by omega, show i + 4 - i = 4 by omega] at hs
  rw [show i + 4 - i = 4 by omega] at hb
  have h1 := get_any (c - i) A' ((p.drop i).take 4) w (hb w p rfl hp) (by simp; omega)
  rw [show ((p.drop i).take 4).length = 4 by simp; omega, ← wordIn_n p i hi] at h1
  have H1 := Lib.hid h1
  have hw1 := n32_lo (wordIn p i)
  have hw2 := n32_hi (wordIn p i)
  have t1 : (i : Int) ≤ (p.length : Int) - 4 := by omega
  clear h1 hb hp
  go_enter Try.func47, Try.ntmps47
  go_wp2_with fail
  refine H1.out.mono ?_
  rintro e w' ⟨rfl, rfl⟩
  go_wp2
  go_ret2
  exact ⟨rfl, rfl⟩
end Go.Proofs.Ytgagpbbmlpbjpaa
