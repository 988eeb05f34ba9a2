/- The words that the definition names: roots of primes, by the document's own functions. -/
import Derived.Test.YtgagpbbmlpbjpaaOwn
import Derived.Test.YtgagpbbmlpbjpaaSmall
import Derived.WalkSpells
import Derived.WalkLawsBesides
import Derived.Outline
namespace Go.Proofs.Ytgagpbbmlpbjpaa
open Go.RowKit

def n64 (x : UInt64) : Int := (x.toNat : Int)
theorem n64_lo (x : UInt64) : 0 ≤ n64 x := by unfold n64; omega
theorem n64_hi (x : UInt64) : n64 x ≤ 18446744073709551615 := by unfold n64; have := x.toNat_lt; omega
/-- is x to the power of 2 or 3 above p times 2^64 or 2^96? -/
def hi (a : UInt64) : UInt64 := a >>> 32
def lo (a : UInt64) : UInt64 := a % 4294967296
def add64 (a b : UInt64) : UInt64 := a + b
def mul64 (a b : UInt64) : UInt64 := a * b
theorem w_add64 (a b : UInt64) : IntKind.u64.wrap (n64 a + n64 b) = n64 (add64 a b) := by
  rw [IntKind.wrap_u64]; unfold n64 add64; rw [UInt64.toNat_add]; simp
theorem w_mul64 (a b : UInt64) : IntKind.u64.wrap (n64 a * n64 b) = n64 (mul64 a b) := by
  rw [IntKind.wrap_u64]; unfold n64 mul64; rw [UInt64.toNat_mul]; simp
theorem w_two64 (b : UInt64) : IntKind.u64.wrap (2 * n64 b) = n64 (mul64 2 b) := w_mul64 2 b
theorem w_hi64 (a : UInt64) : n64 a / 4294967296 = n64 (hi a) := by
  unfold n64 hi; rw [UInt64.toNat_shiftRight]; simp [Nat.shiftRight_eq_div_pow]
theorem w_lo64 (a : UInt64) : n64 a % 4294967296 = n64 (lo a) := by
  unfold n64 lo; rw [UInt64.toNat_mod]; simp
theorem w_lo64' (a : UInt64) : (n64 a).tmod 4294967296 = n64 (lo a) := by
  rw [Int.tmod_eq_emod_of_nonneg (n64_lo a), w_lo64]

def sqLow (x : UInt64) : UInt64 := mul64 (lo x) (lo x)
def sqMid (x : UInt64) : UInt64 := add64 (mul64 (mul64 2 (hi x)) (lo x)) (hi (sqLow x))
def sqHigh (x : UInt64) : UInt64 := add64 (mul64 (hi x) (hi x)) (hi (sqMid x))
def over2 (x p : UInt64) : Bool := decide (p ≤ sqHigh x)
def cuT (x : UInt64) : UInt64 := mul64 (lo (sqLow x)) (hi x)
def cuU (x : UInt64) : UInt64 := mul64 (lo (sqMid x)) (lo x)
def cuCarry (x : UInt64) : UInt64 := add64 (add64 (hi (mul64 (lo (sqLow x)) (lo x))) (lo (cuT x))) (lo (cuU x))
def cuNext (x : UInt64) : UInt64 := add64 (add64 (add64 (add64 (hi (cuT x)) (hi (cuU x))) (lo (mul64 (lo (sqMid x)) (hi x)))) (lo (mul64 (sqHigh x) (lo x)))) (hi (cuCarry x))
def cuTop (x : UInt64) : UInt64 := add64 (add64 (add64 (hi (mul64 (lo (sqMid x)) (hi x))) (hi (mul64 (sqHigh x) (lo x)))) (mul64 (sqHigh x) (hi x))) (hi (cuNext x))
def over3 (x p : UInt64) : Bool := decide (p ≤ cuTop x)
def over (x p : UInt64) (three : Bool) : Bool := if three then over3 x p else over2 x p
theorem n64_le (a b : UInt64) : decide (n64 a ≤ n64 b) = decide (a ≤ b) := by
  unfold n64; rw [decide_eq_decide, UInt64.le_iff_toNat_le]; omega

set_option maxRecDepth 100000 in
set_option maxHeartbeats 2000000 in
theorem over2_any (x p : UInt64) (w : World) :
    Calls Try.prog 52 #[.int .u64 (n64 x), .int .u64 (n64 p), .bool false] w fun e w' => e = .returned (.bool (over2 x p)) ∧ w = w' := by
  have h1 := w_add64
  have h2 := w_mul64
  have h3 := w_two64
  have h4 := w_hi64
  have h5 := w_lo64
  have h6 := w_lo64'
  have h7 := n64_lo
  have h8 := n64_le
  go_enter Try.func52, Try.ntmps52
  go_wp2
  go_ret
  exact ⟨rfl, rfl⟩
set_option maxRecDepth 100000 in
set_option maxHeartbeats 2000000 in
theorem over3_any (x p : UInt64) (w : World) :
    Calls Try.prog 52 #[.int .u64 (n64 x), .int .u64 (n64 p), .bool true] w fun e w' => e = .returned (.bool (over3 x p)) ∧ w = w' := by
  have h1 := w_add64
  have h2 := w_mul64
  have h3 := w_two64
  have h4 := w_hi64
  have h5 := w_lo64
  have h6 := w_lo64'
  have h7 := n64_lo
  have h8 := n64_le
  go_enter Try.func52, Try.ntmps52
  go_wp2
  go_ret
  exact ⟨rfl, rfl⟩

theorem over_any (x p : UInt64) (three : Bool) (w : World) :
    Calls Try.prog 52 #[.int .u64 (n64 x), .int .u64 (n64 p), .bool three] w fun e w' => e = .returned (.bool (over x p three)) ∧ w = w' := by
  cases three
  · exact over2_any x p w
  · exact over3_any x p w

def pow64 (i : Nat) : UInt64 := (1 : UInt64) <<< UInt64.ofNat i
def rootStep (p : UInt64) (three : Bool) (x : UInt64) (i : Nat) : UInt64 := if over (add64 x (pow64 i)) p three then x else add64 x (pow64 i)
def rootGo (p : UInt64) (three : Bool) : Nat → UInt64 → UInt64
  | 0, x => x
  | k + 1, x => rootGo p three k (rootStep p three x k)
def root32 (p : UInt64) (three : Bool) : UInt32 := (lo (rootGo p three 36 0)).toUInt32

theorem lo_u32 (x : UInt64) : n64 (lo x) = n32 (lo x).toUInt32 := by
  unfold n64 n32 lo
  rw [UInt64.toNat_toUInt32, UInt64.toNat_mod]
  simp
theorem pow64_eq (r : Nat) (h : r < 36) : IntKind.u64.wrap (2 ^ r) = n64 (pow64 r) := by
  have : ∀ i : Fin 36, IntKind.u64.wrap (2 ^ i.val) = n64 (pow64 i.val) := by decide +kernel
  exact this ⟨r, h⟩

set_option maxRecDepth 100000 in
set_option maxHeartbeats 1000000 in
theorem root_any (p : UInt64) (three : Bool) (w : World) :
    Calls Try.prog 39 #[.int .u64 (n64 p), .bool three] w fun e w' => e = .returned (.int .u32 (n32 (root32 p three))) ∧ w = w' := by
  go_enter Try.func39, Try.ntmps39
  go_wp2
  go_loop [5, 6] (fun xv i => ∃ (k : Nat) (x : UInt64), k ≤ 36 ∧ i = .int .i64 ((k : Int) - 1) ∧ xv = .int .u64 (n64 x) ∧ rootGo p three k x = rootGo p three 36 0) (fun _ i => (intOf i + 1).toNat)
  case atStart => exact ⟨36, 0, by omega, rfl, rfl, rfl⟩
  case round =>
    obtain ⟨k, x, hk, rfl, rfl, hx⟩ := hrel
    have HX := Lib.hid hx
    clear hx
    rcases Nat.eq_zero_or_pos k with h0 | h0
    · subst h0
      have e0 : (((0 : Nat) : Int) - 1) = -1 := rfl
      rw [e0]
      clear e0
      have b1 := n64_lo x
      go_wp2
      go_ret
      refine ⟨?_, rfl⟩
      show Ending.returned (.int .u32 (n64 x % 4294967296)) = _
      rw [w_lo64]
      unfold root32
      rw [← HX.out]
      simp only [rootGo]
      exact congrArg (fun z => Ending.returned (.int .u32 z)) (lo_u32 x)
    · obtain ⟨r, rfl⟩ : ∃ r, k = r + 1 := ⟨k - 1, by omega⟩
      have e1 : (((r + 1 : Nat) : Int) - 1) = (r : Int) := by omega
      rw [e1]
      have r0 : (0 : Int) ≤ r := by omega
      have r1 : (r : Int) < 36 := by omega
      clear e1
      have h1 := w_add64 x (pow64 r)
      have h2 : IntKind.u64.wrap (2 ^ r) = n64 (pow64 r) := pow64_eq r (by omega)
      obtain ⟨y, hy⟩ : ∃ y, y = add64 x (pow64 r) := ⟨_, rfl⟩
      rw [← h2, ← hy] at h1
      have HY := Lib.hid hy
      clear hy h2
      cases hov : over y p three with
      | true =>
        have hst : rootGo p three r x = rootGo p three 36 0 := by rw [← HX.out]; simp only [rootGo, rootStep]; rw [← HY.out, hov]; rfl
        have HST := Lib.hid hst
        have HO := Lib.hid hov
        clear hst hov
        go_wp2_with fail
        refine (over_any y p three _).mono ?_
        rintro e w' ⟨rfl, rfl⟩
        rw [HO.out]
        go_wp2
        go_round
        case rel => exact ⟨r, x, by omega, rfl, rfl, HST.out⟩
        case measure => simp [intOf] <;> omega
      | false =>
        have hst : rootGo p three r y = rootGo p three 36 0 := by rw [← HX.out]; simp only [rootGo, rootStep]; rw [← HY.out, hov]; rfl
        have HST := Lib.hid hst
        have HO := Lib.hid hov
        clear hst hov
        go_wp2_with fail
        refine (over_any y p three _).mono ?_
        rintro e w' ⟨rfl, rfl⟩
        rw [HO.out]
        go_wp2
        go_round
        case rel => exact ⟨r, y, by omega, rfl, rfl, HST.out⟩
        case measure => simp [intOf] <;> omega

theorem own_n {w : World} {base : Nat} {e : TypeId} {s : Nat} {v : Value} {n m : Nat} {xs : List Value} (h : w.ownsRow base e s v n xs) (he : n = m) : w.ownsRow base e s v m xs := he ▸ h
/-! ### the primes -/
def inner (p : Nat) : Nat → Nat → Bool → Bool
  | 0, _, is => is
  | f + 1, d, is => if d * d ≤ p then inner p f (d + 1) (is && !(p % d == 0)) else is
def isP (p : Nat) : Bool := inner p 30 2 true
def gen (n : Nat) : Nat → List Nat → Nat → List Nat
  | 0, L, _ => L
  | f + 1, L, p => if L.length < n then gen n f (if isP p then L ++ [p] else L) (p + 1) else L
def primesL (n : Nat) : List Nat := gen n 312 [] 2
theorem gen_zero (n : Nat) (L : List Nat) (p : Nat) : gen n 0 L p = L := rfl
theorem gen_succ (n f : Nat) (L : List Nat) (p : Nat) : gen n (f + 1) L p = if L.length < n then gen n f (if isP p then L ++ [p] else L) (p + 1) else L := rfl
def vN (q : Nat) : Value := .int .u64 (q : Int)
def cN (l : List Nat) : List Value := l.map vN
@[simp] theorem cN_length (l : List Nat) : (cN l).length = l.length := by simp [cN]
theorem cN_snoc (l : List Nat) (q : Nat) : cN l ++ [.int .u64 (q : Int)] = cN (l ++ [q]) := by simp [cN, vN]
theorem info_u64 : (Try.prog.info? 44).map (fun i => (i.zero, i.size, i.bytes)) = some (some (.int .u64 0), 1, 8) := by kernel_rfl

set_option maxRecDepth 100000 in
set_option maxHeartbeats 1000000 in
theorem primes_any (n : Nat) (w : World) (hn : n ≤ 64) (hfin : (primesL n).length = n) :
    Calls Try.prog 38 #[.int .i64 (n : Int)] w fun e w' => ∃ v', e = .returned v' ∧ w'.ownsRow w.heap.size 44 1 v' n (cN (primesL n)) ∧ w.grownBy w' none := by
  have HF := Lib.hid hfin
  clear hfin
  go_enter Try.func38, Try.ntmps38
  go_wp2
  go_loopw [3, 4] (fun sv pv wr => ∃ (f p : Nat) (L : List Nat), p + f = 314 ∧ 2 ≤ p ∧ L.length ≤ n ∧ pv = .int .u64 p ∧ gen n f L p = primesL n ∧ Own w wr [ownE w.heap.size 44 sv L.length (cN L)]) (fun _ pv _ => (314 - intOf pv).toNat)
  case atStart => exact ⟨312, 2, [], by omega, by omega, by simp, rfl, rfl, by simpa [cN] using (Own.start w).nilRow w.heap.size 44⟩
  case round =>
    obtain ⟨f, p, L, hpf, hp2, hL, rfl, hg, hS⟩ := hrel
    have HG := Lib.hid hg
    clear hg
    have hbo := own_block (hS.own 0 rfl)
    obtain ⟨A, c, hu, _⟩ : ∃ A c, u3 = .slice A L.length c ∧ True := by
      rcases (hS.own 0 rfl).2 with ⟨hv, h0⟩ | ⟨g, cap, cur, hv, _⟩
      · exact ⟨none, 0, by rw [hv, h0], trivial⟩
      · exact ⟨_, cap, hv, trivial⟩
    by_cases hlt : L.length < n
    · obtain ⟨f', hf'⟩ : ∃ f', f = f' + 1 := by
        cases f with
        | zero => have h1 := HG.out; rw [gen_zero] at h1; have h2 := HF.out; rw [← h1] at h2; omega
        | succ f' => exact ⟨f', rfl⟩
      subst hf' hu
      have hp314 : p ≤ 313 := by omega
      have q1 : (L.length : Int) < n := by omega
      clear hlt
      go_wp2
      go_loop [5, 6] (fun iv dv => ∃ (f d : Nat) (b : Bool), d + f = 32 ∧ 2 ≤ d ∧ iv = .bool b ∧ dv = .int .u64 d ∧ inner p f d b = isP p) (fun _ dv => (32 - intOf dv).toNat)
      case atStart => exact ⟨30, 2, true, by omega, by omega, rfl, rfl, rfl⟩
      case round =>
        obtain ⟨f, d, b, hdf, hd2, rfl, rfl, hi⟩ := hrel
        have HI := Lib.hid hi
        clear hi
        have hdd : 0 ≤ (d : Int) * d := Int.mul_nonneg (by omega) (by omega)
        have hdd2 : (d : Int) * d ≤ 1024 := by
          have : d * d ≤ 32 * 32 := Nat.mul_le_mul (by omega) (by omega)
          have h2 : ((d * d : Nat) : Int) = (d : Int) * d := by simp
          omega
        by_cases hle : d * d ≤ p
        · obtain ⟨f2, rfl⟩ : ∃ f2, f = f2 + 1 := by
            cases f with
            | zero => have : d = 32 := by omega
                      subst this; omega
            | succ f2 => exact ⟨f2, rfl⟩
          have hle' : (d : Int) * d ≤ p := by have h2 : ((d * d : Nat) : Int) = (d : Int) * d := by simp
                                              omega
          have hin := HI.out
          rw [show inner p (f2 + 1) d b = if d * d ≤ p then inner p f2 (d + 1) (b && !(p % d == 0)) else b from rfl, if_pos hle] at hin
          by_cases hdv : p % d = 0
          · have t1 : ((p : Int) % (d : Int) == 0) = true := by rw [beq_iff_eq]; omega
            rw [show (p % d == 0) = true from by simpa using hdv] at hin
            have HIN := Lib.hid hin
            clear hin hle hdv
            go_wp2
            go_round
            case rel => exact ⟨f2, d + 1, false, by omega, by omega, rfl, by go_num, by have := HIN.out; simpa using this⟩
            case measure => simp [intOf]; omega
          · have t1 : ((p : Int) % (d : Int) == 0) = false := by rw [beq_eq_false_iff_ne]; omega
            rw [show (p % d == 0) = false from by simpa using hdv] at hin
            have HIN := Lib.hid hin
            clear hin hle hdv
            go_wp2
            go_round
            case rel => exact ⟨f2, d + 1, b, by omega, by omega, rfl, by go_num, by have := HIN.out; simpa using this⟩
            case measure => simp [intOf]; omega
        · have hgt : (p : Int) < (d : Int) * d := by have h2 : ((d * d : Nat) : Int) = (d : Int) * d := by simp
                                                     omega
          have hb : b = isP p := by
            rw [← HI.out]
            cases f with
            | zero => rfl
            | succ f2 => rw [show inner p (f2 + 1) d b = if d * d ≤ p then inner p f2 (d + 1) (b && !(p % d == 0)) else b from rfl, if_neg hle]
          clear hle
          have hgs := HG.out
          rw [gen_succ, if_pos (by omega), ← hb] at hgs
          have HB := Lib.hid hb
          clear hb
          cases b with
          | false =>
            have HGS := Lib.hid hgs
            clear hgs
            go_wp2
            go_roundw
            case rel => exact ⟨f', p + 1, L, by omega, by omega, by omega, by go_num, by have := HGS.out; simpa using this, hS⟩
            case measure => simp [intOf]; omega
          | true =>
            have HGS := Lib.hid hgs
            clear hgs
            go_wp2_with (refine wp_append1 rfl (.tmp 25) (.tmp 27) 75 rfl w.heap.size 44 (.int .u64 0) 8 Try.underlying75 info_u64 rfl _ L.length (cN L) rfl ((hS.own 0 rfl).alloc _) _ 1 1 [.int .u64 (p : Int)] rfl (.inr ⟨_, rfl, cell_one_new _ _ _⟩) rfl (by simp [Value.oneCell']) (by unfold maxLen; omega) (by omega) (by simp; have := hS.size; omega) ?_)
            intro v' w1 ho1 hg1 hv1
            rw [cN_snoc] at ho1
            have hS1 := (hS.call (World.grownBy_alloc _ _ none)).append 0 rfl ho1 hg1 (by simpa using hv1)
            clear hS ho1 hg1 hv1 hbo
            go_wp2
            go_roundw
            case rel => exact ⟨f', p + 1, L ++ [p], by omega, by omega, by simp; omega, by go_num, by have := HGS.out; simpa using this, by simpa using hS1⟩
            case measure => simp [intOf]; omega
    · have hge : L.length = n := by omega
      have hgl : primesL n = L := by
        rw [← HG.out]
        cases f with
        | zero => rfl
        | succ f' => rw [gen_succ, if_neg hlt]
      have HGL := Lib.hid hgl
      subst hu
      have HGE := Lib.hid hge
      have q1 : (n : Int) ≤ L.length := by omega
      clear hgl hge hlt
      go_wp2
      go_ret
      refine ⟨_, rfl, ?_, hS.grown⟩
      rw [HGL.out]
      exact own_n (hS.own 0 rfl) HGE.out
end Go.Proofs.Ytgagpbbmlpbjpaa
